/- Part Qag of the proof: walks on a machine that is proved sound. -/
import Derived.Test.YtploijbaclgehaaDoorQaf
import Derived.Test.YtploijbaclgehaaDoorProg
import Derived.Carry
import Derived.ChangeSame
import Derived.ChangeVars
import Derived.JoinedOf
import Derived.RowKit
import Derived.RowKitTokens
import Derived.LaidLaws
import Derived.LaidHandle
import Derived.Stop.Joined
import Derived.Handed
import Derived.SevenTiedAt
import Derived.Test.YtploijbaclgehaaDoorRows
import Derived.MakeChecks
set_option linter.unusedVariables false
set_option linter.unusedSimpArgs false
set_option maxRecDepth 10000
section
namespace Go.Ideal
section
variable {P:Program} {G:GG} {N:Nat} {st:St} {K:St->Prop} {T:List (Nat×AV)} {u:Nat}
def cvK (N d:Nat) (o:Option (St×Nat×Nat×List AV)):Option St:=match o with
 | some r=>gO (r.2.1=1/\0 < r.2.2.1) (some ((r.1.put N (.own r.2.1 r.2.2.1 r.2.2.2)).thru N d (.own r.2.1 r.2.2.1 r.2.2.2)))
 | none=>none
@[congr] theorem d1t {d:Nat} {o o':Option (St×Nat×Nat×List AV)} (h:o=o'):cvK N d o=cvK N d o':=by rw [h]
@[go_sem] theorem d8n {d sz n:Nat} {ks:List AV}:cvK N d (some (st,sz,n,ks))=gO (sz=1/\0 < n) (some ((st.put N (.own sz n ks)).thru N d (.own sz n ks))):=(rfl)
@[go_sem] theorem d2g {d:Nat} {s t:TypeId} {x:X}:evS G N (some d) (.conv s t .keep x) st=cvK N d (tkS st N x (rdv st x)):=by
 simp only [evS,a0w,Ev.run_bind,b5p,Option.bind]
 cases tkS st N x (rdv st x) with
 | none=>rfl
 | some r=>
  simp only [Option.map,a07,St.put_s,if_true,a0d,Ev.run_bind,Option.bind,cvK,gO]
  by_cases h1:r.2.1=1
  ·by_cases h2:0 < r.2.2.1
   ·simp only [h1,h2,beq_self_eq_true,decide_true,Bool.and_self,if_true,and_self,a57]
   ·simp only [h1,h2,beq_self_eq_true,decide_false,Bool.and_false,Bool.false_eq_true,if_false,and_false]
  ·have:(r.2.1==1)=false:=by simpa using h1
   simp only [this,Bool.false_and,Bool.false_eq_true,if_false,h1,false_and]
def lkB {α:Type} (b:Bool) (v:α) (o:Option α):Option α:=if b then some v else o
@[congr] theorem d34 {α:Type} {b b':Bool} {v:α} {o:Option α} (h:b=b'):lkB b v o=lkB b' v o:=by rw [h]
@[go_sem] theorem f3g {α:Type} {v:α} {o:Option α}:lkB true v o=some v:=(rfl)
@[go_sem] theorem f3f {α:Type} {v:α} {o:Option α}:lkB false v o=o:=(rfl)
@[go_sem] theorem e0b {α:Type} {a b:Nat} {v:α} {T:List (Nat×α)}:List.lookup a ((b,v)::T)=lkB (a==b) v (List.lookup a T):=by
 simp only [List.lookup_cons,lkB]
 cases a==b<;>rfl
def c5y (b:Bool) (o:Option AV) (T:List (Nat×AV)) (v:AV):AV:=if b then (match o with
 | some av=>av
 | none=>a0x (a7a T) v) else .dead
@[congr] theorem c8x {b b':Bool} {o o':Option AV} {v:AV} (h:b=b') (h2:o=o'):c5y b o T v=c5y b' o' T v:=by rw [h,h2]
@[go_sem] theorem f01 {o:Option AV} {v:AV}:c5y false o T v= .dead:=(rfl)
@[go_sem] theorem f03 {av v:AV}:c5y true (some av) T v=av:=(rfl)
@[go_sem] theorem f02 {v:AV}:c5y true none T v=a0x (a7a T) v:=(rfl)
@[go_sem] theorem e5t:(st.lentS N T).s u=c5y (decide (u < N)) (T.lookup u) T (st.s u):=by
 simp only [St.lentS,c5y,decide_eq_true_eq]
 cases T.lookup u<;>rfl
@[go_sem] theorem d92:(st.lentS N T).ep u=st.ep u:=(rfl)
def b3o (o:Option AV):Bool:=match o with
 | some (.var ks)=> !a0k ks
 | some (.own _ _ ks)=> !a0k ks
 | _=>false
@[congr] theorem c5z {o o':Option AV} (h:o=o'):b3o o=b3o o':=by rw [h]
@[go_sem] theorem e5q:b3o none=false:=(rfl)
@[go_sem] theorem e5s {ks:List AV}:b3o (some (.var ks))= !a0k ks:=(rfl)
@[go_sem] theorem e5r {sz n:Nat} {ks:List AV}:b3o (some (.own sz n ks))= !a0k ks:=(rfl)
theorem b2p {t i:Nat} {q:List Nat}:a7a T t (i::q)=b3o (T.lookup t):=by
 simp only [a7a,b3o]
 cases T.lookup t with
 | none=>rfl
 | some av=>cases av<;>rfl
def c38 (b:Bool) (v:AV):AV:=if b then .dead else v
@[congr] theorem c8n {b b':Bool} {v:AV} (h:b=b'):c38 b v=c38 b' v:=by rw [h]
@[go_sem] theorem f0w {v:AV}:c38 true v= .dead:=(rfl)
@[go_sem] theorem f0v {v:AV}:c38 false v=v:=(rfl)
@[go_sem] theorem c8s {t o e:Nat}:a0x (a7a T) (.ref t [] o e)= .ref t [] o e:=by simp [a0x,a7a]
@[go_sem] theorem c8t {t i o e:Nat} {q:List Nat}:a0x (a7a T) (.ref t (i::q) o e)=c38 (b3o (T.lookup t)) (.ref t (i::q) o e):=by simp only [a0x,b2p,c38]
@[go_sem] theorem c8o {t lo n e:Nat}:a0x (a7a T) (.bor t [] lo n e)= .bor t [] lo n e:=by simp [a0x,a7a]
@[go_sem] theorem c8p {t i lo n e:Nat} {q:List Nat}:a0x (a7a T) (.bor t (i::q) lo n e)=c38 (b3o (T.lookup t)) (.bor t (i::q) lo n e):=by simp only [a0x,b2p,c38]
def b3v (b:Bool) (o:Option (List AV×List (Nat×Nat))):Option (List AV×List (Nat×Nat)):=if b then o else none
@[congr] theorem c9c {b b':Bool} {o:Option (List AV×List (Nat×Nat))} (h:b=b'):b3v b o=b3v b' o:=by rw [h]
@[go_sem] theorem f1k {o:Option (List AV×List (Nat×Nat))}:b3v true o=o:=(rfl)
section
variable {st1:St} {acc:List AV} {L:List (Nat×Nat)} {es:List (Option Nat×AV)}
def pxV (N:Nat) (st1 st:St) (acc:List AV) (L:List (Nat×Nat)) (t:Nat) (v v1:AV) (es:List (Option Nat×AV)):Option (List AV×List (Nat×Nat)):=match v,v1 with
 | .var (k::ks),.var (_::_)=>pX N st1 st (acc++[.var (k::ks)]) (L++[(t,acc.length)]) es
 | _,_=>none
def pxR (N:Nat) (st1 st:St) (acc:List AV) (L:List (Nat×Nat)) (t e:Nat) (o:Option Nat) (es:List (Option Nat×AV)):Option (List AV×List (Nat×Nat)):=match o with
 | some j=>b3v (decide (e=st.ep t)) (pX N st1 st (acc++[.ref j [] 0 0]) L es)
 | none=>b3v (decide (e=st.ep t)&&decide (t < N)) (pxV N st1 st acc L t (st.s t) (st1.s t) es)
def pxT (N:Nat) (st1 st:St) (acc:List AV) (L:List (Nat×Nat)) (o:Option AV) (es:List (Option Nat×AV)):Option (List AV×List (Nat×Nat)):=match o with
 | some p=>pX N st1 st (acc++[p]) L es
 | none=>none
@[congr] theorem d58 {t:Nat} {v v' v1 v1':AV} (h:v=v') (h1:v1=v1'):pxV N st1 st acc L t v v1 es=pxV N st1 st acc L t v' v1' es:=by rw [h,h1]
@[congr] theorem d56 {t e:Nat} {o o':Option Nat} (h:o=o'):pxR N st1 st acc L t e o es=pxR N st1 st acc L t e o' es:=by rw [h]
@[congr] theorem d57 {o o':Option AV} (h:o=o'):pxT N st1 st acc L o es=pxT N st1 st acc L o' es:=by rw [h]
@[congr] theorem e03 {acc':List AV} {L':List (Nat×Nat)} {es':List (Option Nat×AV)} (h1:acc=acc') (h2:L=L') (h3:es=es'):pX N st1 st acc L es=pX N st1 st acc' L' es':=by rw [h1,h2,h3]
@[go_sem] theorem e7d {t:Nat} {k k1:AV} {ks ks1:List AV}:pxV N st1 st acc L t (.var (k::ks)) (.var (k1::ks1)) es=pX N st1 st (acc++[.var (k::ks)]) (L++[(t,acc.length)]) es:=(rfl)
@[go_sem] theorem f3r {t e j:Nat}:pxR N st1 st acc L t e (some j) es=b3v (decide (e=st.ep t)) (pX N st1 st (acc++[.ref j [] 0 0]) L es):=(rfl)
@[go_sem] theorem f3q {t e:Nat}:pxR N st1 st acc L t e none es=b3v (decide (e=st.ep t)&&decide (t < N)) (pxV N st1 st acc L t (st.s t) (st1.s t) es):=(rfl)
@[go_sem] theorem f3s {p:AV}:pxT N st1 st acc L (some p) es=pX N st1 st (acc++[p]) L es:=(rfl)
@[go_sem] theorem f1p:pX N st1 st acc L []=some (acc,L):=(rfl)
@[go_sem] theorem f4v {k:Nat} {av:AV}:pX N st1 st acc L ((some k,av)::es)=b3v (noRef av) (pX N st1 st (acc++[av]) L es):=by
 simp only [pX,b3v]
@[go_sem] theorem f1q {t e:Nat}:pX N st1 st acc L ((none,.ref t [] 0 e)::es)=pxR N st1 st acc L t e (L.lookup t) es:=by
 simp only [pX,pxR,b3v,pxV,decide_eq_true_eq,Bool.and_eq_true]
 cases L.lookup t<;>rfl
@[go_sem] theorem d4m {t e sz n:Nat} {ks:List AV}:b88 t e (.own sz n ks)= .bor t [] 0 n e:=(rfl)
@[go_sem] theorem d4n {t e:Nat} {ks:List AV}:b88 t e (.var ks)= .ref t [] 0 e:=(rfl)
def pxO (N:Nat) (st1 st:St) (acc:List AV) (L:List (Nat×Nat)) (t n:Nat) (v v1:AV) (es:List (Option Nat×AV)):Option (List AV×List (Nat×Nat)):=match v,v1 with
 | .own sz n0 ks,.own sz1 n1 _=>b3v (decide (n=n0)&&(decide (sz1=sz)&&decide (n1=n0))) (pX N st1 st (acc++[.own sz n0 ks]) (L++[(t,acc.length)]) es)
 | _,_=>none
def pxB (N:Nat) (st1 st:St) (acc:List AV) (L:List (Nat×Nat)) (t n e:Nat) (o:Option Nat) (es:List (Option Nat×AV)):Option (List AV×List (Nat×Nat)):=match o with
 | some _=>none
 | none=>b3v (decide (e=st.ep t)&&decide (t < N)) (pxO N st1 st acc L t n (st.s t) (st1.s t) es)
@[congr] theorem d55 {t n n':Nat} {v v' v1 v1':AV} (hn:n=n') (h:v=v') (h1:v1=v1'):pxO N st1 st acc L t n v v1 es=pxO N st1 st acc L t n' v' v1' es:=by rw [hn,h,h1]
@[congr] theorem d54 {t n e:Nat} {o o':Option Nat} (h:o=o'):pxB N st1 st acc L t n e o es=pxB N st1 st acc L t n e o' es:=by rw [h]
@[go_sem] theorem e7c {t n sz n0 sz1 n1:Nat} {ks ks1:List AV}:pxO N st1 st acc L t n (.own sz n0 ks) (.own sz1 n1 ks1) es=b3v (decide (n=n0)&&(decide (sz1=sz)&&decide (n1=n0))) (pX N st1 st (acc++[.own sz n0 ks]) (L++[(t,acc.length)]) es):=(rfl)
@[go_sem] theorem f3p {t n e:Nat}:pxB N st1 st acc L t n e none es=b3v (decide (e=st.ep t)&&decide (t < N)) (pxO N st1 st acc L t n (st.s t) (st1.s t) es):=(rfl)
@[go_sem] theorem f1m {t n e:Nat}:pX N st1 st acc L ((none,.bor t [] 0 n e)::es)=pxB N st1 st acc L t n e (L.lookup t) es:=by
 simp only [pX,pxB,b3v,pxO,decide_eq_true_eq,Bool.and_eq_true]
 cases L.lookup t<;>rfl
@[go_sem] theorem f1o {v:Value}:pX N st1 st acc L ((none,.lit v)::es)=pX N st1 st (acc++[.lit v]) L es:=(rfl)
@[go_sem] theorem f3l {n:Nat} {ks:List AV}:pX N st1 st acc L ((none,.sl n ks)::es)=pX N st1 st (acc++[.sl n ks]) L es:=(rfl)
@[go_sem] theorem f3k {n:Nat} {ks:List AV}:pX N st1 st acc L ((none,.ip ks n)::es)=pX N st1 st (acc++[.ip ks n]) L es:=(rfl)
@[go_sem] theorem f1l {ks:List AV}:pX N st1 st acc L ((none,.agg ks)::es)=b3v (a0k ks) (pX N st1 st (acc++[.agg ks]) L es):=by
 simp only [pX,trA,a0j,b3v]
 by_cases h:a0k ks=true<;>simp [h]
@[go_sem] theorem f1n {t:TypeId} {k:AV}:pX N st1 st acc L ((none,.ifc t k)::es)=b3v (a0j k) (pX N st1 st (acc++[.ifc t k]) L es):=by
 simp only [pX,trA,a0j,b3v]
 by_cases h:a0j k=true<;>simp [h]
@[go_sem] theorem f3j {f:FuncId} {fs cs:List AV}:pX N st1 st acc L ((none,.fn f fs cs)::es)=pxT N st1 st acc L (trA st L (.fn f fs cs)) es:=(rfl)
def fn2 (f:FuncId) (a b:Option (List AV)):Option AV:=match a,b with
 | some a,some b=>some (.fn f a b)
 | _,_=>none
@[go_sem] theorem f22 {f:FuncId} {a b:List AV}:fn2 f (some a) (some b)=some (.fn f a b):=(rfl)
@[go_sem] theorem f2e {f:FuncId} {fs cs:List AV}:trA st L (.fn f fs cs)=fn2 f (trL st L fs) (trL st L cs):=by
 simp only [trA,fn2]
 cases trL st L fs<;>cases trL st L cs<;>rfl
@[go_sem] theorem e8g:trL st L []=some []:=by simp only [trL]
@[go_sem] theorem e2d {k:AV} {ks:List AV}:trL st L (k::ks)=avs (trA st L k) (trL st L ks):=by
 simp only [trL,avs]
 cases trA st L k<;>cases trL st L ks<;>rfl
@[go_sem] theorem e8e {v:Value}:trA st L (.lit v)=some (.lit v):=by simp only [trA,a0j,if_true]
@[go_sem] theorem f2g {n:Nat} {ks:List AV}:trA st L (.sl n ks)=some (.sl n ks):=by simp only [trA,a0j,if_true]
@[go_sem] theorem f2f {n:Nat} {ks:List AV}:trA st L (.ip ks n)=some (.ip ks n):=by simp only [trA,a0j,if_true]
def d7l (b:Bool) (l:Option Nat) (o:Nat):Option AV:=if b then l.map fun i=> .ref i [] o 0 else none
@[congr] theorem d0h {b b':Bool} {l l':Option Nat} {o:Nat} (h:b=b') (h2:l=l'):d7l b l o=d7l b' l' o:=by rw [h,h2]
@[go_sem] theorem f2h {i o:Nat}:d7l true (some i) o=some (.ref i [] o 0):=(rfl)
@[go_sem] theorem e8f {t o e:Nat}:trA st L (.ref t [] o e)=d7l (decide (e=st.ep t)) (L.lookup t) o:=by simp [trA,d7l]
@[go_sem] theorem f4z {t:Nat}:xv st (.t t)=st.s t:=(rfl)
@[go_sem] theorem f4w {v:Value}:xv st (.c v)= .lit v:=(rfl)
@[go_sem] theorem f4x {n:Nat}:xv st (.f n)= .fn n [] []:=(rfl)
@[go_sem] theorem f4y {n:Nat}:xv st (.g n)= .lit (.pointer (some ⟨n,0,none⟩)):=(rfl)
@[go_sem] theorem e3o {fs cs:List AV} {lay:List CS}:b3g N st fs lay cs=fs.map (fun a=>(none,a))++(lay.map (b70 N st)++cs.map (fun a=>(none,a))):=(rfl)
@[go_sem] theorem e87 {k:Nat}:b70 N st (.p k)=(some k,st.s (N+2+k)):=(rfl)
@[go_sem] theorem e86 {t:Nat}:b70 N st (.l t)=(none,b88 t (st.ep t) (st.s t)):=(rfl)
@[go_sem] theorem e88 {y:X}:b70 N st (.x y)=(none,xv st y):=(rfl)
end
def d2w (st:St) (N:Nat) (T:List (Nat×AV)) (d:Option Nat) (res:AV):St:=match d with
 | some d=>(st.lentS N T).thru N d res
 | none=>st.lentS N T
@[go_sem] theorem d2y {d:Nat} {res:AV}:d2w st N T (some d) res=(st.lentS N T).thru N d res:=(rfl)
@[go_sem] theorem d2x {res:AV}:d2w st N T none res=st.lentS N T:=(rfl)
def b6z:AV->Bool
 | .var _=>true
 | _=>false
def c3t (pre:List AV) (posts:List (Nat×AV)):Prop:=∀ i av,(i,av)∈posts->∃ p,pre[i]? =some p/\b9u p av
def c0q:Option AV->Bool
 | some v=>b6z v
 | none=>false
def c1s (pre:List AV) (p:Nat×AV):Bool:=b6z p.2&&c0q pre[p.1]?
@[go_sem] theorem d3q {ks:List AV}:b6z (.var ks)=true:=(rfl)
@[go_sem] theorem c5w {v:AV}:c0q (some v)=b6z v:=(rfl)
@[go_sem] theorem e2e {pre:List AV} {i:Nat} {v:AV}:c1s pre (i,v)=(b6z v&&c0q pre[i]?):=(rfl)
theorem b78 {v:AV} (h:b6z v=true):∃ ks,v= .var ks:=by cases v<;>simp [b6z] at h; exact ⟨_,rfl⟩
theorem c3m {pre:List AV} {p:Nat×AV} (h:c1s pre p=true):∃ ks ks0,p.2= .var ks/\pre[p.1]? =some (.var ks0):=by
 simp only [c1s,Bool.and_eq_true] at h
 obtain ⟨ks,h1⟩:=b78 h.1
 cases h2:pre[p.1]? with
 | none=>rw [h2] at h; cases h.2
 | some v=>
  rw [h2] at h
  obtain ⟨ks0,rfl⟩:=b78 h.2
  exact ⟨ks,ks0,h1,rfl⟩
theorem b6e {pre:List AV} {posts:List (Nat×AV)} (h:(posts.all fun p=>c1s pre p)=true):c3t pre posts:=fun i av hm=>by
 obtain ⟨ks,ks0,h1,h2⟩:=c3m (List.all_eq_true.1 h _ hm)
 simp only at h1 h2
 subst h1
 exact ⟨_,h2,trivial⟩
def clx (P:Program) (G:GG) (N:Nat) (d:Option Nat) (f:FuncId) (pre:List AV) (L:List (Nat×Nat)) (st1 st2:St) (K:St->Prop):Prop:=
 ∃ res posts,ACallsX P G f pre res posts/\noRef res=true/\posts.map (·.1)=L.map (·.2)/\c3t pre posts/\K (d2w (if a0v res&&posts.all fun p=>a0v p.2 then st1 else st2) N ((L.map (·.1)).zip (posts.map (·.2))) d res)
def c7k (P:Program) (G:GG) (N:Nat) (d:Option Nat) (f:FuncId) (st1 st2:St) (o:Option (List AV×List (Nat×Nat))) (K:St->Prop):Prop:=match o with
 | some x=>clx P G N d f x.1 x.2 st1 st2 K
 | none=>False
def c47 (P:Program) (G:GG) (N:Nat) (d:Option Nat) (v:AV) (lay:List CS) (st1 st2:St) (K:St->Prop):Prop:=match v with
 | .fn f fs cs=>fnB P f=true/\c7k P G N d f st1 st2 (pX N st1 st2 [] [] (b3g N st2 fs lay cs)) K
 | _=>False
def c2a (P:Program) (G:GG) (N:Nat) (d:Option Nat) (cv:X) (lay:List CS) (o1 o2:Option St) (K:St->Prop):Prop:=match o1,o2 with
 | some st1,some st2=>c47 P G N d (xv st2 cv) lay st1 st2 K
 | _,_=>False
def c48 (P:Program) (G:GG) (N:Nat) (d:Option Nat) (cv:X) (args:List (Bool×X)) (lay:List CS) (o1:Option St) (K:St->Prop):Prop:=c2a P G N d cv lay o1 (pss N (N+2) args o1) K
section
variable {d:Option Nat} {cv:X} {args:List (Bool×X)} {lay:List CS} {st1 st2:St} {f:FuncId}
@[congr] theorem c7i {o o':Option St} (h:o=o'):c48 P G N d cv args lay o K=c48 P G N d cv args lay o' K:=by rw [h]
@[congr] theorem c7j {o1 o o':Option St} (h:o=o'):c2a P G N d cv lay o1 o K=c2a P G N d cv lay o1 o' K:=by rw [h]
@[congr] theorem c7h {v v':AV} (h:v=v'):c47 P G N d v lay st1 st2 K=c47 P G N d v' lay st1 st2 K:=by rw [h]
@[congr] theorem c7l {o o':Option (List AV×List (Nat×Nat))} (h:o=o'):c7k P G N d f st1 st2 o K=c7k P G N d f st1 st2 o' K:=by rw [h]
@[congr] theorem d1p {pre pre':List AV} {L L':List (Nat×Nat)} (h:pre=pre') (h2:L=L'):clx P G N d f pre L st1 st2 K=clx P G N d f pre' L' st1 st2 K:=by rw [h,h2]
@[go_sem] theorem d1m:c48 P G N d cv args lay (some st) K=c2a P G N d cv lay (some st) (pss N (N+2) args (some st)) K:=(rfl)
@[go_sem] theorem d1n:c2a P G N d cv lay (some st1) (some st2) K=c47 P G N d (xv st2 cv) lay st1 st2 K:=(rfl)
@[go_sem] theorem e26 {fs cs:List AV}:c47 P G N d (.fn f fs cs) lay st1 st2 K=(fnB P f=true/\c7k P G N d f st1 st2 (pX N st1 st2 [] [] (b3g N st2 fs lay cs)) K):=(rfl)
@[go_sem] theorem d1o {pre:List AV} {L:List (Nat×Nat)}:c7k P G N d f st1 st2 (some (pre,L)) K=clx P G N d f pre L st1 st2 K:=(rfl)
@[go_sem] theorem c6x {tys:List TypeId} {rest:List AO}:a8l P G N (⟨d,.callx cv args lay tys,none⟩::rest) K st=c48 P G N d cv args lay (gvs N (N+2) args (some st)) (a8l P G N rest K):=by
 simp only [a8l,a8b,b1x,b7y]
 rw [<-a56]
 apply propext
 constructor
 ·rintro ⟨f,fs,cs,st1,st2,L,pre,res,posts,st3,h1,h2,h3,h4,h5,h6,h7,h8,h9,h10,h11⟩
  have e2:=a24 (N:=N) args (N+2) st1
  rw [h2] at e2
  simp only [h1,Option.map,c48,c2a,<-e2,h3,c47,h5,c7k]
  refine ⟨h4,res,posts,h6,h7,h8,h9,?_⟩
  have:d2w (if a0v res&&posts.all fun p=>a0v p.2 then st1 else st2) N ((L.map (·.1)).zip (posts.map (·.2))) d res=st3:=by
   cases d with
   | none=>
    simp only [b51,Ev.run_pure,Option.some.injEq,Prod.mk.injEq,true_and] at h10
    exact h10
   | some d=>
    simp only [b51,a57,Option.some.injEq,Prod.mk.injEq,true_and] at h10
    exact h10
  rw [this]; exact h11
 ·cases h1:(a4h N (N+2) args).run st with
  | none=>intro h; simp only [Option.map,c48,c2a] at h
  | some r=>
   obtain ⟨_,st1⟩:=r
   simp only [Option.map,c48]
   rw [<-a24]
   cases h2:(a2s N (N+2) args).run st1 with
   | none=>intro h; simp only [Option.map,c2a] at h
   | some r2=>
    obtain ⟨_,st2⟩:=r2
    simp only [Option.map,c2a]
    cases h3:xv st2 cv<;>simp only [c47]<;>try exact False.elim
    rename_i f fs cs
    rintro ⟨h4,h⟩
    cases h5:pX N st1 st2 [] [] (b3g N st2 fs lay cs) with
    | none=>rw [h5] at h; exact h.elim
    | some x=>
     obtain ⟨pre,L⟩:=x
     rw [h5] at h
     obtain ⟨res,posts,h6,h7,h8,h9,h10⟩:=h
     refine ⟨f,fs,cs,st1,st2,L,pre,res,posts,_,rfl,h2,h3,h4,h5,h6,h7,h8,h9,?_,h10⟩
     cases d<;>rfl
theorem a04 {pre:List AV} {L:List (Nat×Nat)} {res:AV} {posts:List (Nat×AV)} (hA:ACallsX P G f pre res posts) (hn:noRef res=true) (hp:posts.map (·.1)=L.map (·.2)) (hv:(posts.all fun p=>c1s pre p)=true) (hi:(a0v res&&posts.all fun p=>a0v p.2)=true)
  (h:K (d2w st1 N ((L.map (·.1)).zip (posts.map (·.2))) d res)):clx P G N d f pre L st1 st2 K:=⟨res,posts,hA,hn,hp,b6e hv,by rw [hi]; exact h⟩
end
section
variable {d:Option Nat} {cv:X} {args:List (Bool×X)} {lay:List CS} {f:FuncId} {aft:DA} {rest:List AO} {fps:List (List Nat×List Nat)} {K:St->Prop} {ex:List Nat}
def e8o:AV->Bool
 | .var ks=>a0k ks
 | _=>false
@[go_sem] theorem d7o {ks:List AV}:e8o (.var ks)=a0k ks:=(rfl)
@[go_sem] theorem d93 {v:Value}:c2z (.lit v)=true:=(rfl)
@[go_sem] theorem d7a {rd:List Nat} {n:Nat}:a4f rd (.t n)=rd.contains n:=(rfl)
@[go_sem] theorem d67 {rd:List Nat} {v:Value}:a4f rd (.c v)=true:=(rfl)
@[go_sem] theorem d68 {rd:List Nat} {n:Nat}:a4f rd (.f n)=true:=(rfl)
@[go_sem] theorem d69 {rd:List Nat} {n:Nat}:a4f rd (.g n)=true:=(rfl)
@[go_sem] theorem c9z {rd:List Nat} {t:Nat} {q:List Nat} {o e:Nat}:a2d rd (.ref t q o e)=rd.contains t:=by simp only [a2d]
@[go_sem] theorem c9x {rd:List Nat} {t:Nat} {q:List Nat} {lo n e:Nat}:a2d rd (.bor t q lo n e)=rd.contains t:=by simp only [a2d]
@[go_sem] theorem d6f {rd:List Nat} {f:FuncId} {a c:List AV}:a2d rd (.fn f a c)=(a2b rd a&&a2b rd c):=by simp only [a2d]
@[go_sem] theorem c9y {rd:List Nat} {v:Value}:a2d rd (.lit v)=true:=by simp only [a2d]
@[go_sem] theorem d6g {rd:List Nat} {n:Nat} {ks:List AV}:a2d rd (.sl n ks)=true:=by simp only [a2d]
@[go_sem] theorem c6f {rd:List Nat}:a2b rd []=true:=by simp only [a2b]
@[go_sem] theorem c4d {rd:List Nat} {k:AV} {ks:List AV}:a2b rd (k::ks)=(a2d rd k&&a2b rd ks):=by simp only [a2b]
@[go_sem] theorem c8y {rd:List Nat}:b63 st rd args=args.all fun p=> !p.1&&(c2z (rdv st p.2)&&a4f rd p.2):=(rfl)
@[go_sem] theorem c6a {j:Nat}:a08 st j []=st:=(rfl)
@[go_sem] theorem c4b {j:Nat} {p:Bool×X}:a08 st j (p::args)=a08 (st.put j (rdv st p.2)) (j+1) args:=(rfl)
@[go_sem] theorem d30 {rd:List Nat} {n:Nat}:b61 st rd n []=true:=(rfl)
@[go_sem] theorem e5l {rd:List Nat} {n k:Nat}:b61 st rd n (.p k::lay)=(decide (k < n)&&b61 st rd n lay):=(rfl)
@[go_sem] theorem e5m {rd:List Nat} {n:Nat} {y:X}:b61 st rd n (.x y::lay)=((a4f rd y&&a2d rd (xv st y))&&b61 st rd n lay):=(rfl)
def dCx (P:Program) (G:GG) (N:Nat) (aft:DA) (ex:List Nat) (d:Option Nat) (cv:X) (args:List (Bool×X)) (lay:List CS) (rest:List AO) (fps:List (List Nat×List Nat)) (K:St->Prop) (st:St):Prop:=
 b98 P G N aft ex d (.callx cv args lay []) fps (fun fps st=>a6t aft.2 st/\a6u P G N aft rest fps K st) st
@[congr] theorem d1x {st':St} (h:st=st'):dCx P G N aft ex d cv args lay rest fps K st=dCx P G N aft ex d cv args lay rest fps K st':=by rw [h]
@[go_sem] theorem c7w {tys:List TypeId}:a6u P G N aft (⟨d,.callx cv args lay tys,none⟩::rest) fps K st=dCx P G N aft [] d cv args lay rest fps K st:=(rfl)
end
def b6n (rs:List RV) (res:AV) (posts:List (Nat×AV)):Exit->St->Prop
 | .normal,st | .ret,st=>c93 rs st=some res/\∀ p∈posts,st.s p.1=p.2
 | _,_=>False
section
variable {rs:List RV} {res:AV} {posts:List (Nat×AV)}
@[congr] theorem c5f {e:Exit} {st':St} (h2:st=st'):b6n rs res posts e st=b6n rs res posts e st':=by rw [h2]
def poK:List (Nat×AV)->St->Prop
 | [],_=>True
 | p::ps,st=>st.s p.1=p.2/\poK ps st
@[congr] theorem d5s {ps:List (Nat×AV)} {st':St} (h:st=st'):poK ps st=poK ps st':=by rw [h]
@[go_sem] theorem e6s:poK [] st=True:=(rfl)
@[go_sem] theorem e05 {t:Nat} {v:AV} {ps:List (Nat×AV)}:poK ((t,v)::ps) st=(st.s t=v/\poK ps st):=(rfl)
theorem b7f:∀ {ps:List (Nat×AV)},(∀ p∈ps,st.s p.1=p.2)=poK ps st
 | []=>by simp [poK]
 | p::ps=>by simp only [List.mem_cons,forall_eq_or_imp,poK,b7f (ps:=ps)]
@[go_sem] theorem e3p:b6n rs res posts .normal st=(c6q (rvL rs st)=some res/\poK posts st):=by rw [<-b7f]; rfl
@[go_sem] theorem e3q:b6n rs res posts .ret st=(c6q (rvL rs st)=some res/\poK posts st):=by rw [<-b7f]; rfl
theorem b6o {vs:List ResultVar} (h:b5r P N rs vs=true):∀ e st,b6n rs res posts e st->e93 P N vs res posts e st:=by
 intro e st hq
 have key:c93 rs st=some res->b01 P N st vs=some res:=by
  intro hk
  unfold c93 at hk
  cases hl:rvL rs st with
  | none=>rw [hl] at hk; cases hk
  | some ks=>
   rw [hl] at hk
   simp only [b01,b1e h hl]
   exact hk
 cases e<;>first | exact ⟨key hq.1,hq.2⟩ | exact hq
end
theorem ACallsX.of_walk {P:Program} {G:GG} {f:FuncId} {fn:Func} {c:Code} {N:Nat} {vs:List ResultVar} {rs:List RV} {ic:IC} (hord:P.follows .mixedOrders=true) (hf:P.funcs[f]? =some fn) (hb:fn.body=some c) (hN:fn.ntmps=N) (hrs:fn.results.toList=vs) (hnd:(vs.map rvT).Nodup)
  (he:a7x c=ic.ec) (hok:ic.ok P N=true) (hr:b5r P N rs vs=true) {pins:List Nat} (hpin:ic.pin pins=true) {pre:List AV} {res:AV} {posts:List (Nat×AV)} (hsz:pre.length<=N) (hpo:posts.map (·.1)=pins) (hpr:pins.all (fun t=> !(vs.map rvT).contains t&&decide (t < pre.length))=true) (hnr:(posts.all fun p=>noRef p.2)=true)
  (h:AW P G N ic (b6n rs res posts) (St.init pre)):ACallsX P G f pre res posts:=
 a65 hf hb hN hrs hnd hsz (fun p hp=>by
  have:=List.all_eq_true.1 hpr p.1 (by rw [<-hpo]; exact List.mem_map.2 ⟨p,hp,rfl⟩)
  simp only [Bool.and_eq_true,Bool.not_eq_true',decide_eq_true_eq] at this
  exact ⟨fun hm=>by simp [hm] at this,this.2,List.all_eq_true.1 hnr p hp⟩) (by rw [hpo]; exact (b7u hord ic c _ _ he hok hpin h).mono (b6o hr))
end
abbrev oo (d:Nat) (i:IOp):AO:=⟨some d,.op i,none⟩
abbrev om (d t:Nat):AO:=⟨some d,.op (.mv (.t t)),none⟩
abbrev ov (i:IOp):AO:=⟨none,.op i,none⟩
abbrev og (d:Nat) (i:IOp) (j t:Nat) (b:Bool):AO:=⟨some d,.op i,some (j,t,b)⟩
abbrev oc (d:Nat) (f:FuncId) (args:List (Bool×X)) (tys:List TypeId):AO:=⟨some d,.call f args tys,none⟩
abbrev X.n (k:Int):X:= .c (.int .i64 k)
abbrev fnK:Type:=Bool×Option Func×Option EC×Nat×List ResultVar×Bool×Bool×Bool
def fnL (P:Program) (f:FuncId) (fn:Func) (N:Nat) (rs:List RV) (vs:List ResultVar) (ic:IC):fnK:=
 (P.follows .mixedOrders,P.funcs[f]?,fn.body.map a7x,fn.ntmps,fn.results.toList,decide ((vs.map rvT).Nodup),ic.ok P N,b5r P N rs vs)
def fnR (fn:Func) (N:Nat) (vs:List ResultVar) (ic:IC):fnK:=(true,some fn,some ic.ec,N,vs,true,true,true)
abbrev fnC (P:Program) (f:FuncId) (N:Nat) (rs:List RV) (ic:IC):Prop:=
 ∀ {G:GG} {pre:List AV} {res:AV} (hsz:decide (pre.length<=N)=true) (hw:AW P G N ic (c5e rs res) (St.init pre)),ACalls P G f pre res
abbrev fnX (P:Program) (f:FuncId) (N:Nat) (rs:List RV) (vs:List ResultVar) (ic:IC):Prop:=
 ∀ {G:GG} {pre:List AV} {res:AV} {posts:List (Nat×AV)} {pins:List Nat} (hpin:ic.pin pins=true) (hpo:posts.map (·.1)=pins)
  (hpr:pins.all (fun t=> !(vs.map rvT).contains t&&decide (t < pre.length))=true) (hnr:(posts.all fun p=>noRef p.2)=true) (hsz:decide (pre.length<=N)=true) (hw:AW P G N ic (b6n rs res posts) (St.init pre)),ACallsX P G f pre res posts
section
variable {P:Program} {f:FuncId} {N:Nat} {rs:List RV} {ic:IC}
theorem a1g (fn:Func) (vs:List ResultVar) (h:fnL P f fn N rs vs ic=fnR fn N vs ic):fnC P f N rs ic:=by
 intro G pre res hsz hw
 simp only [fnL,fnR,Prod.mk.injEq,Option.map_eq_some_iff,decide_eq_true_eq] at h
 obtain ⟨h1,h2,⟨c,hc,he⟩,h4,h5,h6,h7,h8⟩:=h
 exact ACalls.of_walk h1 h2 hc h4 h5 h6 he h7 h8 (of_decide_eq_true hsz) hw
theorem a6v (fn:Func) {vs:List ResultVar} (h:fnL P f fn N rs vs ic=fnR fn N vs ic):fnX P f N rs vs ic:=by
 intro G pre res posts pins hpin hpo hpr hnr hsz hw
 simp only [fnL,fnR,Prod.mk.injEq,Option.map_eq_some_iff,decide_eq_true_eq] at h
 obtain ⟨h1,h2,⟨c,hc,he⟩,h4,h5,h6,h7,h8⟩:=h
 exact ACallsX.of_walk h1 h2 hc h4 h5 h6 he h7 h8 hpin (of_decide_eq_true hsz) hpo hpr hnr hw
end
end Go.Ideal
end
section
namespace Go.Ideal.Tryd
noncomputable abbrev pg:Program:=Go.Proofs.Tryd.prog
def a2p:IC:=(.seq (.seq (.reg [om 12 5,
 om 13 0,
 oo 14 (.len 34 false (.t 13)),
 oo 15 (.bin .lss 3 0 (.t 12) (.t 14) 3)]) (.cond (.t 15) .skip (.exit 0))) (.seq (.block 1 (.seq (.draw [om 18 0,
 om 19 5,
 oo 20 (.iaddr 34 1 (.t 18) (.t 19)),
 oo 21 (.load 3 none (.t 20)),
 om 22 1,
 om 23 5,
 oo 24 (.iaddr 34 1 (.t 22) (.t 23)),
 oo 25 (.load 3 none (.t 24)),
 oo 26 (.bin .eql 3 0 (.t 21) (.t 25) 3),
 oo 6 (.asg (.t 26))] [[],[],[0,1],[2],[],[],[4,5],[6],[3,7],[8,0,1,2,3,4,5,6,7,8]]) (.seq (.reg [om 27 6,
 oo 28 (.un .not 4 (.t 27))]) (.cond (.t 28) (.seq (.reg [oo 4 (.asg (.c (.bool false)))]) .ret) .skip)))) (.reg [om 16 5,
 oo 17 (.bin .add 3 0 (.t 16) (.n 1) 3),
 oo 5 (.asg (.t 17))])))
def a22:IC:=(.seq (.reg [oo 4 (.asg (.c (.bool false)))]) (.seq (.seq (.reg [om 7 0,
 oo 8 (.len 34 false (.t 7)),
 om 9 1,
 oo 10 (.len 34 false (.t 9)),
 oo 11 (.bin .neq 3 0 (.t 8) (.t 10) 3)]) (.cond (.t 11) (.seq (.reg [oo 4 (.asg (.c (.bool false)))]) .ret) .skip)) (.seq (.seq (.reg [oo 5 (.asg (.n 0))]) (.block 0 (.loop a2p))) (.seq (.reg [oo 4 (.asg (.c (.bool true)))]) .ret))))
abbrev a75:Nat:=19
theorem a6z:fnC pg 19 29 [(.tmp 4)] a22:=a1g Go.Proofs.Tryd.f19 [(.tmp 4)] (by kernel_rfl)
@[go_sem] theorem b49:fnB pg 19=true:=by kernel_rfl
def a42:IC:=(.seq (.reg [oo 4 (.asg (.n 0))]) (.seq (.reg [om 5 0,
 om 6 1,
 oo 7 (.bin .rem 3 0 (.t 5) (.t 6) 3),
 om 8 1,
 oo 9 (.bin .add 3 0 (.t 7) (.t 8) 3),
 om 10 1,
 oo 11 (.bin .rem 3 0 (.t 9) (.t 10) 3),
 oo 4 (.asg (.t 11))]) .ret))
abbrev a78:Nat:=13
theorem a62:fnC pg 13 12 [(.tmp 4)] a42:=a1g Go.Proofs.Tryd.f13 [(.tmp 4)] (by kernel_rfl)
@[go_sem] theorem b5c:fnB pg 13=true:=by kernel_rfl
abbrev li (n:Int):AV:= .lit (.int .i64 n)
abbrev lb (b:Bool):AV:= .lit (.bool b)
abbrev e4h (k:Int) (p:Bool) (n:Int):AV:= .agg [li k,lb p,li n]
@[go_sem] abbrev c6w:Nat:=198
@[go_sem] abbrev f2l:Nat:=106
def cn (g:Nat):Nat:=[2,0,9,1,5,6,7,3,99,4,8,10,11,12,13,14,15,16,17,18,19,20].getD g g
def gn (g:Nat):Nat:=[1,3,0,7,9,4,5,6,10,2,11,12,13,14,15,16,17,18,19,20,21].getD g g
@[go_sem] theorem f4d:cn 0=2:=(rfl)
@[go_sem] theorem f4e:cn 1=0:=(rfl)
@[go_sem] theorem f4f:cn 2=9:=(rfl)
@[go_sem] theorem f4g:cn 3=1:=(rfl)
@[go_sem] theorem f4h:cn 4=5:=(rfl)
@[go_sem] theorem f4i:cn 5=6:=(rfl)
@[go_sem] theorem f4j:cn 6=7:=(rfl)
@[go_sem] theorem f4k:cn 7=3:=(rfl)
@[go_sem] theorem f4l:cn 9=4:=(rfl)
@[go_sem] theorem f2o:cn 10=8:=(rfl)
@[go_sem] theorem f2p:cn 11=10:=(rfl)
@[go_sem] theorem f2q:cn 12=11:=(rfl)
@[go_sem] theorem f2r:cn 13=12:=(rfl)
@[go_sem] theorem f2s:cn 14=13:=(rfl)
@[go_sem] theorem f2t:cn 15=14:=(rfl)
@[go_sem] theorem f2u:cn 16=15:=(rfl)
@[go_sem] theorem f2v:cn 17=16:=(rfl)
@[go_sem] theorem f2w:cn 18=17:=(rfl)
@[go_sem] theorem f2x:cn 19=18:=(rfl)
@[go_sem] theorem f2y:cn 20=19:=(rfl)
@[go_sem] theorem f2z:cn 21=20:=(rfl)
structure Sent (G:GG) (bk:Nat->Nat×Nat):Prop where
 val:∀ g,g < 22/\g≠8->G g=some (.iface c6w (.pointer (some ⟨(bk (cn g)).1,(bk (cn g)).2,none⟩)))
 blk:∀ g,g < 21->(G (bk g).1).isSome=true
 inj:∀ g h,g < 21->h < 21->bk g=bk h->g=h
structure Sent5 (G:GG) (bk:Nat->Nat×Nat):Prop where
 val:∀ g,g=0\/g=4\/g=5\/g=7\/g=9->G g=some (.iface c6w (.pointer (some ⟨(bk (cn g)).1,(bk (cn g)).2,none⟩)))
 blk:∀ g,2<=g/\g<=6->(G (bk g).1).isSome=true
 inj:∀ g h,2<=g/\g<=6->2<=h/\h<=6->bk g=bk h->g=h
structure Sent3 (G:GG) (bk:Nat->Nat×Nat):Prop where
 val:∀ g,g=0\/g=5\/g=7->G g=some (.iface c6w (.pointer (some ⟨(bk (cn g)).1,(bk (cn g)).2,none⟩)))
structure SentO (G:GG) (bk:Nat->Nat×Nat):Prop where
 val:∀ g,g=0\/g=1\/g=3\/g=4\/g=5\/g=6\/g=7->G g=some (.iface c6w (.pointer (some ⟨(bk (cn g)).1,(bk (cn g)).2,none⟩)))
theorem Sent.o {G:GG} {bk:Nat->Nat×Nat} (h:Sent G bk):SentO G bk:=⟨fun g hg=>h.val g (by omega)⟩
instance {G:GG} {bk:Nat->Nat×Nat}:Coe (Sent G bk) (SentO G bk):=⟨Sent.o⟩
@[go_sem] abbrev sv (bk:Nat->Nat×Nat) (g:Nat):AV:= .lit (.iface c6w (.pointer (some ⟨(bk g).1,(bk g).2,none⟩)))
abbrev slB (xs:List Bool):AV:= .sl xs.length (xs.map lb)
abbrev slI (xs:List Int):AV:= .sl xs.length (xs.map li)
abbrev owI (xs:List Int):AV:= .own 1 xs.length (xs.map li)
abbrev owB (xs:List Bool):AV:= .own 1 xs.length (xs.map lb)
abbrev f4a (xs:List (List Int)):AV:= .sl xs.length (xs.map slI)
abbrev f3i (xs:List (List Int)):AV:= .own 1 xs.length (xs.map owI)
attribute [go_sem] slB slI owI owB f4a f3i
@[go_sem] theorem a7d (xs:List Int):a01 (xs.map li)=true:=a9o fun x=>by simp only [a0v]
@[go_sem] theorem d40 (xs:List Bool):a01 (xs.map lb)=true:=a9o fun x=>by simp only [a0v]
@[go_sem] theorem d48 (xs:List Int):a0k (xs.map li)=true:=a9q fun x=>by simp only [a0j]
@[go_sem] theorem d47 (xs:List Bool):a0k (xs.map lb)=true:=a9q fun x=>by simp only [a0j]
inductive Er where
 | nil
 | s (g:Nat)
 | at (p:Int) (e:Er)
def a5c (bk:Nat->Nat×Nat):Er->AV
 | .nil=> .lit .nilIface
 | .s g=>sv bk g
 | .at p e=> .ifc f2l (.ip [li p,a5c bk e] 0)
abbrev wr (n:Int):Int:=IntKind.i64.wrap n
def inB (n:Nat) (u:List (List Int)):Prop:=∀ r∈u,∀ k∈r,0<=k/\k < (n:Int)
section
variable {G:GG} {bk:Nat->Nat×Nat} {Q:Exit->St->Prop} {st:St}
end
def c56:List Int->List Int->List Int
 | [],l=>l
 | k::ks,l=>c56 ks (l.set k.toNat (wr (l[k.toNat]! - 1)))
theorem b8c:∀ (ks l:List Int),(c56 ks l).length=l.length
 | [],l=>rfl
 | k::ks,l=>by rw [c56,b8c]; simp
section
variable {G:GG} {Q:Exit->St->Prop} {st:St}
end
section
variable {G:GG} {bk:Nat->Nat×Nat}
abbrev fl (x:Int×Bool×Int):AV:=e4h x.1 x.2.1 x.2.2
inductive Er.ok:Er->Prop
 | nil:Er.ok .nil
 | s {g:Nat} (h:g < 21):Er.ok (.s g)
 | at {p:Int} {g:Nat} (h:g < 21):Er.ok (.at p (.s g))
theorem c0c (e:Er):noRef (a5c bk e)=true/\a0j (a5c bk e)=true:=by
 cases e<;>simp [a5c,noRef,a0j]
end
section
variable {G:GG} {bk:Nat->Nat}
theorem b62 {α:Type} [Inhabited α] {xs ys:List α} (hl:xs.length=ys.length) (h:∀ i,i < xs.length->xs[i]! =ys[i]!):xs=ys:=by
 apply List.ext_getElem hl
 intro i h1 h2
 have:=h i h1
 simpa [h1,h2] using this
theorem a7r {a b:List Int} (ha:a.length < 2 ^ 62):ACalls pg G a75 [slI a,slI b] (lb (decide (a=b))):=by
 refine a6z rfl ?_
 by_cases hl:a.length=b.length
 ·have hl':(a.length:Int)=b.length:=by omega
  simp (disch:=omega) [go_sem,a22,hl']
  refine a03 Nat (fun i st=>st.s 0=slI a/\st.s 1=slI b/\st.s 5=li i/\i<=a.length/\∀ j,j < i->a[j]! =b[j]!) (fun i=>a.length - i) 0 ?_ ?_
  ·exact ⟨by simp (disch:=omega) [go_sem,hl],by simp (disch:=omega) [go_sem],by simp (disch:=omega) [go_sem],by simp,fun j hj=>by omega⟩
  ·rintro i st K ⟨h0,h1,h5,hi,hc⟩ hK
   by_cases hlt:i < a.length
   ·have hlt2:i < b.length:=by omega
    simp (disch:=omega) [go_sem,a2p,h0,h1,h5,hlt]
    refine a3e ?_
    simp (disch:=omega) [go_sem,h0,h1,h5]
    refine a5h (by decide) fun s2 hs he=> ?_
    by_cases he2:a[i]=b[i]
    ·simp (disch:=omega) [go_sem,hs,he2,h5]
     exact hK (i+1) _ ⟨by simp (disch:=omega) [go_sem,hs,h0],by simp (disch:=omega) [go_sem,hs,h1],by simp (disch:=omega) [go_sem],by omega,fun j hj=>by
      by_cases hji:j=i
      ·subst hji; simpa [hlt,hlt2] using he2
      ·exact hc j (by omega)⟩ (by omega)
    ·have:a≠b:=by rintro rfl; exact he2 rfl
     simp (disch:=omega) [go_sem,hs,he2,h5,this]
   ·have:a=b:=b62 hl fun j hj=>hc j (by omega)
    simp (disch:=omega) [go_sem,a2p,h0,h5,hlt,this]
 ·have hl':¬ (a.length:Int)=b.length:=by omega
  have:a≠b:=by rintro rfl; exact hl rfl
  simp (disch:=omega) [go_sem,a22,hl',this]
end
theorem get!_set {α:Type} [Inhabited α] {l:List α} {i k:Nat} {v:α} (hi:i < l.length):(l.set i v)[k]! =if k=i then v else l[k]! :=by
 by_cases h:k=i
 ·subst h; simp [hi]
 ·simp only [h,if_false]
  by_cases hk:k < l.length
  ·simp [hk,Ne.symm h,List.getElem_set]
  ·simp [hk]
theorem b99 {n:Nat}:∀ {ks l:List Int},l.length=n->(∀ k∈ks,0<=k/\k < (n:Int))->(∀ k,k < n->(ks.count (k:Int):Int)<=l[k]! /\l[k]! < 2 ^ 62)->∀ k,k < n->(c56 ks l)[k]! =l[k]! - ks.count (k:Int)
 | [],l,hl,hk,hb,k,hkn=>by simp [c56]
 | x::xs,l,hl,hk,hb,k,hkn=>by
  obtain ⟨h1,h2⟩:=hk x (by simp)
  have hx:x.toNat < l.length:=by omega
  have e:(x.toNat:Int)=x:=by omega
  have hbx:=hb x.toNat (by omega)
  rw [e] at hbx
  simp only [List.count_cons_self] at hbx
  have hw:wr (l[x.toNat]! - 1)=l[x.toNat]! - 1:=b5x (by omega)
  rw [c56,hw,b99 (n:=n) (by simpa using hl) (fun k hk'=>hk k (by simp [hk'])) (fun k hkn=> ?_) k hkn,get!_set hx]
  ·by_cases hkx:k=x.toNat
   ·subst hkx; rw [if_pos rfl,e,List.count_cons_self]; omega
   ·have:¬ (x=(k:Int)):=by omega
    simp only [hkx,if_false,List.count_cons,beq_iff_eq,this,Nat.add_zero]
  ·rw [get!_set hx]
   have:=hb k hkn
   by_cases hkx:k=x.toNat
   ·subst hkx; rw [e] at this ⊢; rw [if_pos rfl]; simp only [List.count_cons_self] at this; omega
   ·have hne:¬ (x=(k:Int)):=by omega
    simp only [hkx,if_false]
    simp only [List.count_cons,beq_iff_eq,hne,if_false,Nat.add_zero] at this
    exact this
def cnt (done:List Bool) (row:List Int):Nat:=row.countP fun x=> !done[x.toNat]!
theorem b94 {done:List Bool} {i:Nat} (hi:i < done.length) (hd:done[i]! =false):∀ {row:List Int},(∀ x∈row,0<=x/\x < (done.length:Int))->cnt (done.set i true) row+row.count (i:Int)=cnt done row
 | [],_=>by simp [cnt]
 | x::xs,h=>by
  have ih:=b94 hi hd (row:=xs) (fun y hy=>h y (by simp [hy]))
  simp only [cnt] at ih ⊢
  rw [List.countP_cons,List.countP_cons,List.count_cons,get!_set hi]
  have:=(h x (by simp)).1
  by_cases hx:x.toNat=i
  ·have:x=(i:Int):=by omega
   subst this
   simp [hd] at ih ⊢
   omega
  ·have:¬ (x=(i:Int)):=by omega
   simp only [hx,if_false,beq_iff_eq,this,Nat.add_zero]
   omega
structure J (ins u:List (List Int)) (done:List Bool) (left:List Int):Prop where
 hd:done.length=ins.length
 hl:left.length=ins.length
 left:∀ k,k < ins.length->left[k]! =cnt done ins[k]!
structure U (ins u:List (List Int)):Prop where
 inb:inB ins.length ins
 len:∀ r∈ins,r.length < 2 ^ 61
 cnt:∀ k,k < ins.length->∀ j,j < ins.length->(u[k]!).count (j:Int)=(ins[j]!).count (k:Int)
 ub:∀ k,k < ins.length->∀ x∈u[k]!,0<=x/\x < (ins.length:Int)
theorem d1q {done:List Bool} {row:List Int}:cnt done row<=row.length:=List.countP_le_length
theorem J.step {ins u:List (List Int)} {done:List Bool} {left:List Int} (hU:U ins u) (h:J ins u done left) {i:Nat} (hi:i < ins.length) (hdi:done[i]! =false):J ins u (done.set i true) (c56 u[i]! left) where
 hd:=by simpa using h.hd
 hl:=by rw [b8c]; exact h.hl
 left k hk:=by
  have hrow:∀ k,k < ins.length->ins[k]! ∈ins:=fun k hk=>by simp [hk]
  have hset:∀ k,k < ins.length->cnt (done.set i true) ins[k]! +(ins[k]!).count (i:Int)=cnt done ins[k]! :=fun k hk=>b94 (by rw [h.hd]; exact hi) hdi (fun x hx=>by rw [h.hd]; exact hU.inb _ (hrow k hk) x hx)
  rw [b99 h.hl (hU.ub i hi) (fun k hk=> ?_) k hk,h.left k hk,hU.cnt i hi k hk]
  ·have:=hset k hk
   omega
  ·rw [h.left k hk,hU.cnt i hi k hk]
   have:=hset k hk
   have h2:=d1q (done:=done) (row:=ins[k]!)
   have h3:=hU.len _ (hrow k hk)
   omega
structure Ordered (ins:List (List Int)) (done:List Bool) (out:List Int):Prop where
 hd:done.length=ins.length
 nd:out.Nodup
 mem:∀ x,x < ins.length->(done[x]! =true↔(x:Int)∈out)
 rng:∀ x∈out,0<=x/\x < (ins.length:Int)
 beh:∀ p,p < out.length->∀ y∈ins[(out[p]!).toNat]!,y∈out.take p
end Go.Ideal.Tryd
end
section
namespace Go.Ideal
open Go.ChangeShapes Go.RowKit Classical
section
variable {H:Type} {e:TypeId×Value->H} {P:Program} {w:World}
def Rd (e:TypeId×Value->H) (P:Program) (w:World) (T:Type) (t:TypeId) (enc:T->List AV) (ok:T->Prop):Prop:=
 ∀ (fuel:Nat) (cs:List Value) (d:DataW H) (ps:List MemPlace),DataW.trod e P w 0 (fun _=>true) true fuel t cs=some (d,ps)->(d.weights P t).all (· <=reachBytes)=true->∃ x,ok x/\RL w (fun b=>b < w.heap.size) (enc x) noQ noB cs/\C1 cs
theorem a8r {M:BS} {k:AV} {v:Value} (h:R w M k noQ noB v):RL w M [k] noQ noB [v]:=by
 simp only [RL]
 exact ⟨v,[],rfl,noB,noB,fun _ h=>h,fun _ h=>h,fun _ h=>h.elim,h,rfl⟩
theorem Rd.int {t:TypeId} (ht:P.underlying t=some (.int .i64)):Rd e P w Int t (fun n=>[.lit (.int .i64 n)]) (fun n=> -9223372036854775808<=n/\n<=9223372036854775807):=by
 intro fuel cs d ps h hw
 obtain ⟨n,rfl,h1,h2⟩:=DataW.trod_int ht h
 refine ⟨n,?_,a8r (by simp only [R]),fun u hu=>by simp at hu; subst hu; rfl⟩
 simp only [Lit.wf,decide_eq_true_eq,Bool.and_eq_true] at h2
 first | exact h2 | (obtain ⟨a,b⟩:=h2; simp [IntKind.wrap_i64] at *; omega)
theorem Rd.bool {t:TypeId} (ht:P.underlying t=some .bool):Rd e P w Bool t (fun n=>[.lit (.bool n)]) (fun _=>True):=by
 intro fuel cs d ps h hw
 obtain ⟨n,rfl,h1⟩:=DataW.trod_bool ht h
 exact ⟨n,trivial,a8r (by simp only [R]),fun u hu=>by simp at hu; subst hu; rfl⟩
theorem a74 {u:TypeId} {p:Nat->Bool}:∀ {ds:List (DataW H)},(DataW.weightsAll P u ds).all p=true->∀ d∈ds,(d.weights P u).all p=true
 | [],_,d,hd=>by simp at hd
 | x::xs,h,d,hd=>by
  simp only [DataW.weightsAll,List.all_append,Bool.and_eq_true] at h
  rcases List.mem_cons.1 hd with rfl | hd
  ·exact h.1
  ·exact a74 h.2 d hd
theorem cells?_cell {a:Addr} {n:Nat} {cs:List Value} (h:w.cells? 0 a n=some cs):cs.length=n/\∀ i u,cs[i]? =some u->w.cell? (a.add i)=some u:=by
 unfold World.cells? at h
 rw [if_pos (Nat.zero_le _)] at h
 have key:∀ (l:List Nat) (r:List Value),l.mapM (fun i=>w.cell? (a.add i))=some r->r.length=l.length/\∀ (i j:Nat) (u:Value),l[i]? =some j->r[i]? =some u->w.cell? (a.add j)=some u:=by
  intro l
  induction l with
  | nil=>intro r h; simp at h; subst h; exact ⟨rfl,fun i j u hi=>by simp at hi⟩
  | cons x l ih=>
   intro r h
   simp only [List.mapM_cons,Option.bind_eq_bind,Option.pure_def,Option.bind_eq_some_iff,Option.some.injEq] at h
   obtain ⟨y,hy,ys,hys,rfl⟩:=h
   obtain ⟨h1,h2⟩:=ih ys hys
   refine ⟨by simp [h1],fun i j u hi hu=> ?_⟩
   cases i with
   | zero=>simp at hi hu; subst hi; subst hu; exact hy
   | succ i=>exact h2 i j u (by simpa using hi) (by simpa using hu)
 obtain ⟨h1,h2⟩:=key _ _ h
 refine ⟨by simpa using h1,fun i u hu=>h2 i i u ?_ hu⟩
 have:i < cs.length:=(List.getElem?_eq_some_iff.1 hu).1
 rw [h1] at this
 simp at this
 simp [this]
theorem b4o (a:Addr):a.add 0=a:=by simp [Addr.add]
theorem c13 (b o i:Nat):(⟨b,o,none⟩:Addr).add i=⟨b,o+i,none⟩:=by
 simp only [Addr.add]; split
 ·subst_vars; rfl
 ·rfl
theorem c4h (a:Addr) (m i:Nat):(a.add m).add i=a.add (m+i):=by
 obtain ⟨b,o,s⟩:=a
 simp only [Addr.add]
 by_cases h1:m=0
 ·subst h1; simp
 ·by_cases h2:i=0
  ·subst h2; simp [h1]
  ·simp [h1,h2,Nat.add_assoc]
theorem Rd.slice {t u:TypeId} {T:Type} {enc:T->List AV} {ok:T->Prop} (ht:P.underlying t=some (.slice u)) (hb:0 < P.bytesOf u) (h:Rd e P w T u enc ok) (hlen:∀ x,(enc x).length=P.cellsOf u) :
  Rd e P w (List T) t (fun xs=>[.sl xs.length (xs.flatMap enc)]) (fun xs=>xs.length<=reachBytes/\∀ x∈xs,ok x):=by
 intro fuel cs d ps hd hw
 rcases DataW.trod_slice ht hd with ⟨rfl,_⟩ | ⟨a,len,cap,elems,rest,n,_,rfl,hx,_,hlc,_,hel,hi,_⟩
 ·refine ⟨[],⟨by simp [reachBytes],fun x hx=>by simp at hx⟩,a8r ?_,fun u hu=>by simp at hu; subst hu; rfl⟩
  simp only [R,RL,List.flatMap_nil,List.length_nil]
  exact ⟨none,0,rfl,Nat.le_refl _,[],fun _ h=>by simp at h,rfl,.inl rfl⟩
 ·simp only [Prod.mk.injEq] at hx
  obtain ⟨rfl,_⟩:=hx
  simp only [DataW.weights,ht,List.all_cons,List.all_append,Bool.and_eq_true,decide_eq_true_eq,List.length_map] at hw
  obtain ⟨w1,w2,_⟩:=hw
  have hm:∀ m,m<=len->∃ xs:List T,xs.length=m/\(∀ x∈xs,ok x)/\∃ vs,vs.length=m*P.cellsOf u/\RL w (fun b=>b < w.heap.size) (xs.flatMap enc) noQ noB vs/\C1 vs/\∀ i v,vs[i]? =some v->w.cell? (a.add i)=some v:=by
   intro m
   induction m with
   | zero=>intro _; exact ⟨[],rfl,fun x hx=>by simp at hx,[],by simp,by simp [RL],fun _ h=>by simp at h,fun i v hv=>by simp at hv⟩
   | succ m ih=>
    intro hml
    obtain ⟨xs,l1,ok1,vs,l2,r1,c1,cell1⟩:=ih (by omega)
    have hmi:=hi m (by omega)
    have hme:elems[m]? =some elems[m]:=by simp [show m < elems.length by omega]
    rw [hme] at hmi
    cases hc:w.cells? 0 (a.add (m*P.cellsOf u)) (P.cellsOf u) with
    | none=>rw [hc] at hmi; cases hmi
    | some cs=>
     rw [hc] at hmi
     simp only [Option.bind_some] at hmi
     obtain ⟨x,okx,rx,cx⟩:=h n cs elems[m].1 elems[m].2 hmi (a74 w2 _ (List.mem_map.2 ⟨_,List.getElem_mem _,rfl⟩))
     obtain ⟨g1,g2⟩:=cells?_cell hc
     refine ⟨xs++[x],by simp [l1],fun y hy=> ?_,vs++cs,by rw [List.length_append,l2,g1,Nat.add_mul,Nat.one_mul],?_,fun y hy=> ?_,fun i v hv=> ?_⟩
     ·rcases List.mem_append.1 hy with hy | hy
      ·exact ok1 y hy
      ·simp at hy; subst hy; exact okx
     ·rw [List.flatMap_append]
      simp only [List.flatMap_cons,List.flatMap_nil,List.append_nil]
      exact a1r (fun b hb=>hb.elim (fun h=>h) fun h=>h) (a1e r1 rx fun b hb=>hb.elim)
     ·rcases List.mem_append.1 hy with hy | hy
      ·exact c1 y hy
      ·exact cx y hy
     ·by_cases hiv:i < vs.length
      ·rw [List.getElem?_append_left hiv] at hv
       exact cell1 i v hv
      ·rw [List.getElem?_append_right (by omega)] at hv
       have:=g2 _ v hv
       have e:(a.add (m*P.cellsOf u)).add (i - vs.length)=a.add i:=by
        rw [c4h]
        congr 1
        rw [l2] at hiv ⊢
        omega
       rw [e] at this
       exact this
  obtain ⟨xs,l1,ok1,vs,l2,r1,c1,cell1⟩:=hm len (Nat.le_refl _)
  refine ⟨xs,⟨?_,ok1⟩,a8r ?_,fun y hy=>by simp at hy; subst hy; rfl⟩
  ·rw [l1,<-hel]
   have:elems.length<=(elems.length+rest.length)*P.bytesOf u:=by
    calc elems.length<=elems.length+rest.length:=Nat.le_add_right _ _
     _=(elems.length+rest.length)*1:=(Nat.mul_one _).symm
     _<=_:=Nat.mul_le_mul_left _ hb
   omega
  ·simp only [R]
   refine ⟨some a,cap,by rw [l1],by omega,vs,c1,r1,?_⟩
   cases vs with
   | nil=>exact .inl rfl
   | cons v0 vs'=>
    have h0:=cell1 0 v0 rfl
    obtain ⟨b,o,sp⟩:=a
    have hsp:sp=none:=by
     cases sp with
     | none=>rfl
     | some s=>rw [b4o] at h0; simp [World.cell?] at h0; split at h0<;>cases h0
    subst hsp
    refine .inr ⟨b,o,rfl,?_,fun i u hu=> ?_⟩
    ·by_cases hbs:b < w.heap.size
     ·exact hbs
     ·rw [b4o] at h0
      simp only [World.cell?] at h0
      rw [show w.heap[b]? =none by simp; omega] at h0
      cases h0
    ·have:=cell1 i u hu
     rw [c13] at this
     exact this
theorem Rd.slice1 {t u:TypeId} {T:Type} {enc:T->AV} {ok:T->Prop} (ht:P.underlying t=some (.slice u)) (hb:0 < P.bytesOf u) (hc:P.cellsOf u=1) (h:Rd e P w T u (fun x=>[enc x]) ok) :
  Rd e P w (List T) t (fun xs=>[.sl xs.length (xs.map enc)]) (fun xs=>xs.length<=reachBytes/\∀ x∈xs,ok x):=by
 have:=Rd.slice ht hb h (fun x=>by simp [hc])
 intro fuel cs d ps h1 h2
 obtain ⟨x,a,b,c⟩:=this fuel cs d ps h1 h2
 refine ⟨x,a,?_,c⟩
 have e1:∀ l:List T,l.flatMap (fun x=>[enc x])=l.map enc:=fun l=>by induction l<;>simp_all
 simp only [e1] at b
 exact b
end
theorem b45 {P:Program} {G:GG} {f:FuncId} {W:World} {args:Array Value} {pre:List AV} (hA:ACalls P G f pre (.lit (.bool true))) (hsz:args.size=pre.length) (hG:∀ g v,G.at g v->GC G W g v/\g < W.heap.size)
  (hpre:∀ i av,pre[i]? =some av->R W (fun b=>b < W.heap.size) av noQ noB (args.getD i undef)):Calls P f args W (fun e W'=>e= .returned (.bool true)/\Below W.heap.size W W'):=by
 refine (hA W args (fun b=>b < W.heap.size) (fun _=>none) hsz (fun b hb=>⟨hb,rfl⟩) (fun b i hb=>by cases hb) (fun g v hg=>⟨(hG g v hg).1,(hG g v hg).2,rfl⟩) (fun i av hi=> ?_)).mono ?_
 ·exact a1l (fun b hb=>hb.elim) (hpre i av hi)
 ·rintro ex W' ⟨v,rfl,hr⟩
  obtain ⟨F,_,hv⟩:=hr.own
  simp only [R] at hv
  subst hv
  exact ⟨rfl,hr.os,hr.tape,hr.output,hr.le,fun k hk=>hr.frame k hk (by simp)⟩
section
variable {H:Type} {enc:TypeId×Value->H} {P:Program}
theorem a9e (hl:laidOutB P=true) {W W':World} (hb:Below W.heap.size W W') {sp:Nat->Bool}:∀ {ts:List TypeId} {vs:List Value} {ds:List (DataW H)} {ps:List MemPlace},(∀ t∈ts,P.readableRec t=true/\t < P.types.size)->DataW.TrodAll enc P W 0 (fun _=>true) true ts vs ds ps->
  (∀ x∈ps,x.block < W.heap.size)->(∀ x∈ps,sp x.block=true)->DataW.TrodAll enc P W' 0 sp true ts vs ds ps
 | [],_,_,_,_,h,_,_=>by
  obtain ⟨rfl,rfl,rfl⟩:=trodAll_nil h
  exact trodAll_mk0
 | t::ts,_,_,_,ht,h,hlt,hsp=>by
  obtain ⟨v,vs,d,ds,p,q,rfl,rfl,rfl,h1,h2⟩:=trodAll_cons h
  exact ⟨p,q,WideElems.Trod_stays hl (ht t (by simp)).1 (ht t (by simp)).2 h1 (fun x hx=>hb.same (hlt x (by simp [hx]))) (fun x hx=>hsp x (by simp [hx])),
   a9e hl hb (fun u hu=>ht u (by simp [hu])) h2 (fun x hx=>hlt x (by simp [hx])) (fun x hx=>hsp x (by simp [hx])),rfl⟩
theorem b79 {f:Func} {s:ChangeSpec} {apart fresh handsOn again:Bool} {W W':World} {args:Array Value} {ds gs:List (DataW H)} {before:List MemPlace} {tb:TypeId}
  (hl:laidOutB P=true) (ht:∀ t∈f.params.toList,P.readableRec t=true/\t < P.types.size) (hr:f.resultTypes=#[tb]) (htb:P.underlying tb=some .bool) (hvars:s.vars=[]) (hfn:s.fn H (ds++[])={ results:=[.lit (.bool true)],args:=ds })
  (hW:DataW.Whole enc P f.params.toList s.vars apart W args.toList ds gs before) (hb:Below W.heap.size W W'):s.post enc P f apart fresh handsOn again W args (.bool true) W':=by
 have hW0:=hW
 obtain ⟨p,q,hA,hV,hpq,hz,hn⟩:=hW
 rw [hvars] at hV
 obtain ⟨rfl,rfl⟩:=trodVars_none hV
 have hp:before=p:=by simpa using hpq
 subst hp
 have hlt:∀ x∈before,x.block < W.heap.size:=fun x hx=>hW0.lt x hx
 have hargs:∀ sp:Nat->Bool,(∀ p∈before,sp p.block=true)->DataW.TrodAll enc P W' 0 sp true f.params.toList args.toList ds before:=fun sp hsp=>a9e hl hb ht hA hlt hsp
 have hres:∀ (b:Nat) (sp:Nat->Bool) (hd:Bool),DataW.TrodAll enc P W' b sp hd f.resultTypes.toList ((Value.bool true).resultList f.resultTypes.size) [.lit (.bool true)] []:=fun b sp hd=>by
  rw [hr]; exact trodAll_mk1 (shut_bool htb true)
 have hv0:∀ sp:Nat->Bool,DataW.TrodVars enc P W' sp s.vars [] []:=fun sp=>by rw [hvars]; rfl
 refine ⟨ds,[],before,[],before,[],hW0,?_,?_,?_,World.keptBut_mono (fun p hp=>⟨hp,Or.inr (Or.inl hp)⟩) (hb.frame _),fun _=> ?_⟩
 ·rw [hfn]; exact hres _ _ _
 ·rw [hfn]; exact hargs _ fun x hx=>by simpa using hlt x hx
 ·rw [hfn]; exact hv0 _
 ·refine ⟨ok_one hr rfl (by unfold Value.okWide; rw [htb]; simp [Cell.okWide,Cell.ok,htb]),[.lit (.bool true)]++ds,[],([]++before)++[],⟨[]++before,[],trodAll_append (hargs _ fun _ _=>rfl) (hres _ _ _),hv0 _,rfl,?_,?_⟩,?_⟩
  ·intro b off hp
   have hp':MemPlace.cell b off∈before:=by simpa using hp
   rw [hb.frozen (p:=⟨b,off,none⟩) (hlt _ hp')]
   exact hz b off hp'
  ·intro ha
   simpa using hn ha
  ·intro p hp _
   simpa using hp
end
end Go.Ideal
end
section
namespace Go.Ideal.Tryd
open Go.ChangeShapes Go.RowKit Classical
def c1q:DataW Unit->Option (List UInt8)
 | .iface n (.ptr (.agg [.lit (.string s)])) => if n == "*errors.errorString" then some s else none
 | _=>none
theorem b7r {d : DataW Unit} {s : List UInt8} (h : c1q d = some s) : d = .iface "*errors.errorString" (.ptr (.agg [.lit (.string s)])) := by
 unfold c1q at h
 split at h
 ·split at h
  ·rename_i hn
   simp only [beq_iff_eq] at hn
   injection h with h
   rw [hn,h]
  ·cases h
 ·cases h
noncomputable def b2z (laid:List (String×DataW Unit)) (g:Nat):Option (List UInt8):=laid.findSome? fun x=>if pg.globalNamed x.1==some g then c1q x.2 else none
noncomputable def b5s (L:List Nat) (laid:List (String×DataW Unit)):Bool:=L.all fun g=>(b2z laid g).isSome&&L.all fun h=>g==h|| !(b2z laid g==b2z laid h)
abbrev d6z:List Nat:=[0,1,2,3,4,5,6,7,9,10,11,12,13,14,15,16,17,18,19,20,21]
theorem a9w {W:World}:∀ {laid:List (String×DataW Unit)} {ps:List MemPlace},DataW.LaidVars pg W laid ps->∀ x∈laid,∃ g t cs fuel p,pg.globalNamed x.1=some g/\(pg.globals[g]?).map (·.type)=some t/\W.var? pg x.1=some cs/\
  DataW.trod (fun _=>()) pg W 0 (fun _=>true) false fuel t cs.toList=some (x.2,p)/\(∀ y∈MemPlace.row ⟨g,0,none⟩ cs.size++p,y∈ps)
 | [],_,_,x,hx=>by simp at hx
 | (n,d)::r,ps,h,x,hx=>by
  obtain ⟨g,t,cs,fuel,p,q,h1,h2,h3,h4,h5,rfl⟩:=h
  rcases List.mem_cons.1 hx with rfl | hx
  ·exact ⟨g,t,cs,fuel,p,h1,h2,h3,h4,fun y hy=>List.mem_append_left _ hy⟩
  ·obtain ⟨g',t',cs',f',p',k1,k2,k3,k4,k5⟩:=a9w h5 x hx
   exact ⟨g',t',cs',f',p',k1,k2,k3,k4,fun y hy=>List.mem_append_right _ (k5 y hy)⟩
theorem e44:(d6z.all fun g=>(pg.globals[g]?).map (·.type)==some 53)=true:=by kernel_rfl
theorem f4c:∃ ms,pg.underlying 53=some (.interface ms):=by
 have h:(match pg.underlying 53 with | some (.interface _)=>true | _=>false)=true:=by kernel_rfl
 split at h
 ·rename_i ms hm; exact ⟨ms,hm⟩
 ·cases h
theorem e7n (u : TypeId) (hu : pg.typeName? 3 u = some "*errors.errorString") : u = 198 :=
 typeName_ptr_named (nm := "errors.errorString") (by kernel_rfl) (by kernel_rfl) (by decide) u hu
theorem e8h:pg.underlying 198=some (.pointer 220):=by kernel_rfl
theorem e8i:∃ f:Field,pg.underlying 220=some (.struct #[f])/\f.offset=0/\pg.underlying f.type=some .string/\pg.cellsOf f.type=1:=by
 have h:(match pg.underlying 220 with | some (.struct fs)=>fs.size==1&&fs.all (fun f=>f.offset==0&&(match pg.underlying f.type with | some .string=>true | _=>false)&&pg.cellsOf f.type==1) | _=>false)=true:=by kernel_rfl
 split at h
 ·rename_i fs hm
  simp only [Bool.and_eq_true,beq_iff_eq] at h
  obtain ⟨h1,h2⟩:=h
  obtain ⟨f,hf⟩:∃ f,fs=#[f]:=by
   obtain ⟨l⟩:=fs
   match l,h1 with
   | [f],_=>exact ⟨f,rfl⟩
  subst hf
  simp at h2
  refine ⟨f,hm,h2.1.1,?_,h2.2⟩
  have:=h2.1.2
  split at this
  ·assumption
  ·cases this
 ·cases h
theorem c18:pg.cellsOf 220=1:=by kernel_rfl
theorem b30 {L:List Nat} (hL:∀ g∈L,g∈d6z) {hs:List (Nat×Value)} {laid:List (String×DataW Unit)} {W:World} (h:laidMet pg laid W) (hc:b5s L laid=true) (hhs:∀ p∈hs,p.1 < W.heap.size/\∃ cur T fz,W.heap[p.1]? =some (.cells cur T fz)/\cur[0]? =some p.2):∃ (G:GG) (bk:Nat->Nat×Nat),G.hs=hs/\((∀ g,g∈L->G g=some (.iface c6w (.pointer (some ⟨(bk g).1,(bk g).2,none⟩))))/\(∀ g,g∈L->(G (bk g).1).isSome=true)/\(∀ g h,g∈L->h∈L->bk g=bk h->g=h))/\∀ g v,G.at g v->GC G W g v/\g < W.heap.size:=by
 obtain ⟨ps,hl,_,hp⟩:=h
 simp only [b5s,List.all_eq_true,Bool.and_eq_true,Bool.or_eq_true,beq_iff_eq,Bool.not_eq_true',beq_eq_false_iff_ne,ne_eq] at hc
 have key:∀ g,∃ y:Addr×ByteArray,g∈L->(∃ c t,W.heap[g]? =some (.cells c t (0,0))/\c[0]? =some (.iface 198 (.pointer (some y.1))))/\W.cell? y.1=some (.string y.2)/\b2z laid g=some y.2.data.toList/\(∃ c t,W.heap[y.1.block]? =some (.cells c t (0,0))):=by
  intro g
  by_cases hg:g∈L
  ·obtain ⟨text,ht⟩:=Option.isSome_iff_exists.1 (hc g hg).1
   have ht0:=ht
   unfold b2z at ht
   rw [List.findSome?_eq_some_iff] at ht
   obtain ⟨l1,x,l2,hx,hxs,_⟩:=ht
   split at hxs
   ·rename_i hgn
    simp only [beq_iff_eq] at hgn
    obtain ⟨g',t,cs,fuel,p,h1,h2,h3,h4,h5⟩:=a9w hl x (by rw [hx]; simp)
    obtain rfl:g'=g:=by rw [hgn] at h1; injection h1 with h1; exact h1.symm
    have ht26:t=53:=by
     have:=List.all_eq_true.1 e44 g' (hL _ hg)
     simp only [beq_iff_eq] at this
     rw [this] at h2
     injection h2 with h2
     exact h2.symm
    subst ht26
    rw [b7r hxs] at h4
    obtain ⟨ms,hms⟩:=f4c
    obtain ⟨f,hf1,hf2,hf3,hf4⟩:=e8i
    have hvar:∃ t0 fz,W.heap[g']? =some (.cells cs t0 fz):=by
     unfold World.var? at h3
     rw [h1] at h3
     simp only [Option.bind_some] at h3
     split at h3
     ·rename_i c t0 fz hh
      injection h3 with h3
      subst h3
      exact ⟨_,_,hh⟩
     ·cases h3
    obtain ⟨t0,fz,hh⟩:=hvar
    have hg0:∀ u v,cs.toList=[.iface u v]->MemPlace.cell g' 0∈ps/\W.cell? ⟨g',0,none⟩=some (.iface u v):=by
     intro u v hcs
     have hsz:cs.size=1:=by have:=congrArg List.length hcs; simpa using this
     refine ⟨h5 _ (List.mem_append_left _ (by rw [hsz]; simp [MemPlace.row])),?_⟩
     simp only [World.cell?,hh]
     have:cs[0]? =some (.iface u v):=by
      have:=congrArg (·[0]?) hcs
      simpa using this
     simpa using this
    obtain ⟨a,s,e1,e2,e3,_,e5⟩:=errorString_of_trod hms e7n e8h hf1 rfl hf2 hf3 c18 hf4 h4 (fun u v hcs=>by
     obtain ⟨m1,m2⟩:=hg0 u v hcs
     exact (hp _ _ m1).2 u v m2)
    refine ⟨(a,s),fun _=>⟨?_,e2,?_,?_⟩⟩
    ·obtain ⟨m1,m2⟩:=hg0 _ _ e1
     obtain ⟨⟨c,t1,hc1⟩,_⟩:=hp _ _ m1
     refine ⟨c,t1,hc1,?_⟩
     rw [hc1] at hh
     simp only [Option.some.injEq,Obj.cells.injEq] at hh
     obtain ⟨rfl,_,_⟩:=hh
     have:=congrArg (·[0]?) e1
     simpa using this
    ·rw [ht0,e3]
    ·have:=h5 _ (List.mem_append_right _ (show MemPlace.cell a.block (a.off+0)∈p by rw [e5]; simp [MemPlace.row]))
     exact (hp _ _ this).1
   ·cases hxs
  ·exact ⟨default,fun h=>absurd h hg⟩
 obtain ⟨y,hy⟩:=Classical.axiomOfChoice key
 let bk:Nat->Nat×Nat:=fun g=>((y g).1.block,(y g).1.off)
 let Gf:Nat->Option Value:=fun b=>if b∈L\/∃ g,g∈L/\(bk g).1=b then (match W.heap[b]? with | some (.cells c _ _)=>c[0]? | _=>none) else none
 have hspot:∀ g,g∈L->(y g).1=⟨(bk g).1,(bk g).2,none⟩/\∃ c t v,W.heap[(bk g).1]? =some (.cells c t (0,0))/\c[0]? =some v:=by
  intro g hg
  obtain ⟨_,h2,_,c,t,h4⟩:=hy g hg
  simp only [World.cell?,h4] at h2
  split at h2
  ·cases h2
  ·rename_i hs
   refine ⟨?_,c,t,?_⟩
   ·have:(y g).1.spot=none:=by simpa using hs
    simp only [bk]
    cases hyg:(y g).1
    rw [hyg] at this
    simp only at this
    rw [this]
   ·have hlt:(y g).1.off < c.size:=(Array.getElem?_eq_some_iff.1 h2).1
    exact ⟨c[0]'(by omega),h4,by simp⟩
 have strict:∀ b v,Gf b=some v->∃ c t,W.heap[b]? =some (.cells c t (0,0))/\c[0]? =some v:=fun b v hb=>by
  simp only [Gf] at hb
  split at hb
  ·rename_i hor
   have:∃ c t,W.heap[b]? =some (.cells c t (0,0)):=by
    rcases hor with h1 | ⟨g,hg,rfl⟩
    ·obtain ⟨⟨c,t,h1,_⟩,_⟩:=hy b h1
     exact ⟨c,t,h1⟩
    ·obtain ⟨_,c,t,v,h1,_⟩:=hspot g hg
     exact ⟨c,t,h1⟩
   obtain ⟨c,t,h1⟩:=this
   rw [h1] at hb
   simp only at hb
   exact ⟨c,t,h1,hb⟩
  ·cases hb
 refine ⟨⟨Gf,hs⟩,bk,rfl,⟨fun g hg=> ?_,fun g hg=> ?_,fun g h hg hh he=> ?_⟩,fun b v hb=> ?_⟩
 ·obtain ⟨⟨c,t,h1,h2⟩,_⟩:=hy g hg
  simp only [Gf]
  rw [if_pos (.inl hg),h1]
  simp only
  rw [h2,(hspot g hg).1]
 ·obtain ⟨_,c,t,v,h1,h2⟩:=hspot g hg
  simp only [Gf]
  rw [if_pos (.inr ⟨g,hg,rfl⟩),h1]
  simp only
  rw [h2]; rfl
 ·have e1:(y g).1=(y h).1:=by
   rw [(hspot g hg).1,(hspot h hh).1,he]
  obtain ⟨_,k1,k2,_⟩:=hy g hg
  obtain ⟨_,k3,k4,_⟩:=hy h hh
  rw [e1,k3] at k1
  simp only [Option.some.injEq,Value.string.injEq] at k1
  rcases (hc g hg).2 h hh with h5 | h5
  ·exact h5
  ·exact absurd (by rw [k2,k4,k1]) h5
 ·rcases hb with hb | hb
  ·obtain ⟨c,t,h1,h2⟩:=strict b v hb
   exact ⟨⟨c,t,(0,0),h1,h2,fun _=>rfl⟩,(Array.getElem?_eq_some_iff.1 h1).1⟩
  ·obtain ⟨h1,c,t,fz,h2,h3⟩:=hhs _ hb
   refine ⟨⟨c,t,fz,h2,h3,fun hg=> ?_⟩,h1⟩
   obtain ⟨c',t',h4,_⟩:=strict b v hg
   rw [h4] at h2
   simp only [Option.some.injEq,Obj.cells.injEq] at h2
   exact h2.2.2.symm
end Go.Ideal.Tryd
end
section
namespace Go.Proofs.YtploijbaclgehaaDoor
open Go Go.ChangeShapes Go.WideShapes Go.RowKit Go.Ideal Go.Ideal.Tryd
theorem own:ownKnob Tryd.prog.godebug=none:=by kernel_rfl
theorem c0t:laidOutB Tryd.prog=true:=by kernel_rfl
noncomputable def low:Nat:=(World.holding Tryd.prog default ⟨#[],#[],[]⟩).heap.size
noncomputable def c2y:List Obj:=(List.range 22).map fun g=> .cells #[.string ⟨((b2z Rows.orderWeightsRow.laid g).getD []).toArray⟩] 220 (0,0)
noncomputable def a69 (os:Os):World:=
 let w0:=World.holding Tryd.prog os ⟨c2y.toArray,#[],[]⟩
 { w0 with heap:=((w0.heap.toList.zipIdx).map fun
   | (.cells c t fz,8)=> .cells #[.iface 186 (.agg #[.pointer (some ⟨22,53,none⟩)])] t fz
   | (.cells c t fz,i)=>if i∈([0,1,2,3,4,5,6,7,9,10,11,12,13,14,15,16,17,18,19,20,21]:List Nat) then .cells #[.iface 198 (.pointer (some ⟨low+i,0,none⟩))] t fz else .cells c t fz
   | (o,_)=>o).toArray }
theorem b0u (os:Os) (args:Array Value):((a69 os).forCall (fun _ _=>0) ⟨#[],args,[]⟩).Shaped Tryd.prog:=
 World.shaped_of_RefB (by kernel_rfl) (by kernel_rfl)
abbrev hV:Value:= .iface 186 (.agg #[.pointer (some ⟨22,53,none⟩)])
end Go.Proofs.YtploijbaclgehaaDoor
end
section
namespace Go.Ideal
open Go.ChangeShapes Go.RowKit Classical
section
variable {H:Type} {e:TypeId×Value->H} {P:Program} {w:World}
def RdF (e:TypeId×Value->H) (P:Program) (w:World) (T:Type) (ts:List (TypeId×Nat)) (o total:Nat) (enc:T->List AV) (ok:T->Prop):Prop:=
 ∀ (n:Nat) (cs:List Value) (xs:List (DataW H×List MemPlace)),cs.length=total->xs.length=ts.length->
  (∀ (i:Nat) (p:TypeId×Nat),ts[i]? =some p->DataW.trod e P w 0 (fun _=>true) true n p.1 ((cs.drop p.2).take (P.cellsOf p.1))=xs[i]?)->
  (DataW.weightsEach P (ts.map (·.1)) (xs.map (·.1))).all (· <=reachBytes)=true->∃ x,ok x/\RL w (fun b=>b < w.heap.size) (enc x) noQ noB (cs.drop o)/\C1 (cs.drop o)
theorem RdF.nil {o:Nat}:RdF e P w Unit [] o o (fun _=>[]) (fun _=>True):=by
 intro n cs xs hl _ _ _
 refine ⟨(),trivial,?_,fun u hu=> ?_⟩
 ·rw [List.drop_of_length_le (by omega)]; simp [RL]
 ·rw [List.drop_of_length_le (by omega)] at hu; simp at hu
theorem RdF.cons {T U:Type} {t:TypeId} {k:Nat} {ts:List (TypeId×Nat)} {o total:Nat} {enc:T->List AV} {ok:T->Prop} {enc':U->List AV} {ok':U->Prop} (hk:P.cellsOf t=k) (h:Rd e P w T t enc ok) (hr:RdF e P w U ts (o+k) total enc' ok') :
  RdF e P w (T×U) ((t,o)::ts) o total (fun p=>enc p.1++enc' p.2) (fun p=>ok p.1/\ok' p.2):=by
 intro n cs xs hl hx ht hw
 cases xs with
 | nil=>simp at hx
 | cons y ys=>
  simp only [List.map_cons,DataW.weightsEach,List.all_append,Bool.and_eq_true] at hw
  have h0:=ht 0 (t,o) rfl
  simp only [List.getElem?_cons_zero,hk] at h0
  obtain ⟨x,ox,rx,cx⟩:=h n _ y.1 y.2 h0 hw.1
  obtain ⟨z,oz,rz,cz⟩:=hr n cs ys hl (by simpa using hx) (fun i p hp=>by simpa using ht (i+1) p (by simpa using hp)) hw.2
  have e1:cs.drop o=(cs.drop o).take k++cs.drop (o+k):=by rw [<-List.drop_drop]; exact (List.take_append_drop _ _).symm
  refine ⟨(x,z),⟨ox,oz⟩,?_,fun u hu=> ?_⟩
  ·rw [e1]
   exact a1r (fun b hb=>hb.elim (fun h=>h) fun h=>h) (a1e rx rz fun b hb=>hb.elim)
  ·rw [e1] at hu
   rcases List.mem_append.1 hu with hu | hu
   ·exact cx u hu
   ·exact cz u hu
def b1j (P:Program) (t:TypeId) (l:List (TypeId×Nat)):Bool:=match P.underlying t with
 | some (.struct fs)=>fs.toList.map (fun f=>(f.type,f.offset))==l
 | _=>false
theorem Rd.struct {T:Type} {t:TypeId} {l:List (TypeId×Nat)} {total:Nat} {enc:T->List AV} {ok:T->Prop} (hs:b1j P t l=true) (hc:P.cellsOf t=total) (hF:RdF e P w T l 0 total enc ok):Rd e P w T t enc ok:=by
 intro fuel cs d ps h hw
 unfold b1j at hs
 split at hs
 ·rename_i fs ht
  simp only [beq_iff_eq] at hs
  obtain ⟨xs,n,_,hx,hl,hxl,hf⟩:=DataW.trod_struct ht h
  simp only [Prod.mk.injEq] at hx
  obtain ⟨rfl,_⟩:=hx
  simp only [DataW.weights,ht] at hw
  have:=hF n cs xs (by rw [hl,hc]) (by rw [hxl,<-hs]; simp) (fun i p hp=>by
   rw [<-hs] at hp
   simp only [List.getElem?_map,Option.map_eq_some_iff] at hp
   obtain ⟨f,hfi,rfl⟩:=hp
   exact hf i f (by simpa using hfi)) (by
   rw [<-hs,List.map_map]
   exact hw)
  simpa using this
 ·cases hs
theorem Rd.map {T U:Type} {t:TypeId} {enc:T->List AV} {ok:T->Prop} {enc':U->List AV} {ok':U->Prop} (h:Rd e P w T t enc ok) (f:T->U) (henc:∀ x,enc' (f x)=enc x) (hok:∀ x,ok x->ok' (f x)):Rd e P w U t enc' ok':=by
 intro fuel cs d ps h1 h2
 obtain ⟨x,a,b,c⟩:=h fuel cs d ps h1 h2
 exact ⟨f x,hok x a,by rw [henc]; exact b,c⟩
theorem b7w {t:TypeId} {v:Value} {l:List (TypeId×Nat)} {r:Reach} {base:Nat} {ks:List AV} (hs:b1j P t l=true) (hv:Value.okWide P w r base t v) (hr:RL w (fun b=>b < w.heap.size) ks noQ noB v.cells.toList) (hc:C1 v.cells.toList):R w (fun b=>b < w.heap.size) (.agg ks) noQ noB v:=by
 unfold b1j at hs
 split at hs
 ·rename_i fs ht
  unfold Value.okWide at hv
  rw [ht] at hv
  obtain ⟨cs,rfl,_⟩:=hv
  simp only [R]
  exact ⟨cs,rfl,hc,hr⟩
 ·cases hs
end
end Go.Ideal
end
section
namespace Go.Ideal.Tryd
def a47:IC:=(.reg [om 4 0,
 om 5 0,
 oo 6 (.nilck (.t 5)),
 oo 7 (.faddr 117 0 (.t 6) 0),
 oo 8 (.load 69 none (.t 7)),
 om 9 1,
 oo 10 (.conv 3 5 (.int .u8) (.t 9)),
 om 11 1,
 oo 12 (.bin .shr 3 0 (.t 11) (.c (.int .u64 (8))) 143),
 oo 13 (.conv 3 5 (.int .u8) (.t 12)),
 oo 14 (.bslice 69 5 1 2 [.lit (.int .u8 0)] [(0,(.t 10)),(1,(.t 13))]),
 oo 15 (.app 69 5 1 1 (.t 8) (.t 14)),
 oo 16 (.nilck (.t 4)),
 oo 17 (.faddr 117 0 (.t 16) 0),
 ov (.store 69 1 (.t 17) (.t 15))])
abbrev a8a:Nat:=53
@[go_sem] theorem b5k:fnB pg 53=true:=by kernel_rfl
theorem a6p:fnX pg 53 18 [] [] a47:=a6v Go.Proofs.Tryd.f53 (by kernel_rfl)
def a4l:IC:=(.reg [om 4 0,
 om 5 0,
 oo 6 (.nilck (.t 5)),
 oo 7 (.faddr 117 0 (.t 6) 0),
 oo 8 (.load 69 none (.t 7)),
 om 9 1,
 oo 10 (.conv 3 5 (.int .u8) (.t 9)),
 om 11 1,
 oo 12 (.bin .shr 3 0 (.t 11) (.c (.int .u64 (8))) 143),
 oo 13 (.conv 3 5 (.int .u8) (.t 12)),
 om 14 1,
 oo 15 (.bin .shr 3 0 (.t 14) (.c (.int .u64 (16))) 143),
 oo 16 (.conv 3 5 (.int .u8) (.t 15)),
 om 17 1,
 oo 18 (.bin .shr 3 0 (.t 17) (.c (.int .u64 (24))) 143),
 oo 19 (.conv 3 5 (.int .u8) (.t 18)),
 oo 20 (.bslice 69 5 1 4 [.lit (.int .u8 0)] [(0,(.t 10)),(1,(.t 13)),(2,(.t 16)),(3,(.t 19))]),
 oo 21 (.app 69 5 1 1 (.t 8) (.t 20)),
 oo 22 (.nilck (.t 4)),
 oo 23 (.faddr 117 0 (.t 22) 0),
 ov (.store 69 1 (.t 23) (.t 21))])
abbrev a7w:Nat:=52
@[go_sem] theorem b4d:fnB pg 52=true:=by kernel_rfl
theorem a54:fnX pg 52 24 [] [] a4l:=a6v Go.Proofs.Tryd.f52 (by kernel_rfl)
def a2w:IC:=(.seq (.reg [oo 4 (.asg (.c (.bool false)))]) (.seq (.reg [om 5 0,
 om 6 1,
 ⟨(some 7),.callx (.f 110) [(false,(.t 5))] [.p 0,.x (.t 6)] [34,125],none⟩,
 oo 8 (.bin .geq 3 0 (.t 7) (.n 0) 3),
 oo 4 (.asg (.t 8))]) .ret))
abbrev a5o:Nat:=80
@[go_sem] theorem b1g:fnB pg 80=true:=by kernel_rfl
theorem a4d:fnX pg 80 9 [(.tmp 4)] [(.tmp 4)] a2w:=a6v Go.Proofs.Tryd.f80 (by kernel_rfl)
def b07:IC:=(.seq (.reg [oo 2 (.asg (.c (.bool false)))]) (.seq (.reg [om 3 0,
 oo 4 (.bin .geq 3 0 (.t 3) (.n (-2147483648)) 3),
 om 5 4,
 og 6 (.mv (.t 0)) 2 5 true,
 og 7 (.bin .leq 3 0 (.t 6) (.n 2147483647) 3) 2 5 true,
 oo 8 (.pick (.t 5) (.t 7) (.c (.bool false))),
 oo 2 (.asg (.t 8))]) .ret))
abbrev b56:Nat:=83
theorem b14:fnC pg 83 9 [(.tmp 2)] b07:=a1g Go.Proofs.Tryd.f83 [(.tmp 2)] (by kernel_rfl)
@[go_sem] theorem c3a:fnB pg 83=true:=by kernel_rfl
def a14:IC:=(.seq (.reg [oo 9 (.bin .lss 3 0 (.t 8) (.t 7) 3)]) (.seq (.cond (.t 9) .skip (.exit 0)) (.seq (.block 1 (.seq (.reg [om 10 8,
 oo 5 (.asg (.t 10))]) (.seq (.reg [om 11 1,
 om 12 0,
 om 13 5,
 oo 14 (.iaddr 34 1 (.t 12) (.t 13)),
 oo 15 (.load 3 none (.t 14)),
 ⟨(some 16),.callx (.t 11) [(false,(.t 15))] [.p 0] [3],none⟩]) (.cond (.t 16) (.seq (.reg [om 17 5,
 oo 4 (.asg (.t 17))]) .ret) .skip)))) (.reg [oo 18 (.bin .add 3 0 (.t 8) (.n 1) 3),
 om 8 18]))))
def a3p:IC:=(.seq (.reg [oo 4 (.asg (.n 0))]) (.seq (.seq (.reg [om 6 0,
 oo 7 (.len 34 false (.t 6)),
 oo 8 (.mv (.n 0))]) (.block 0 (.loop a14))) (.seq (.reg [oo 4 (.asg (.n (-1)))]) .ret)))
abbrev a6x:Nat:=110
@[go_sem] theorem b20:fnB pg 110=true:=by kernel_rfl
theorem a5f:fnX pg 110 19 [(.tmp 4)] [(.tmp 4)] a3p:=a6v Go.Proofs.Tryd.f110 (by kernel_rfl)
section
variable {G:GG} {Q:Exit->St->Prop} {st:St}
abbrev lu (n:Int):AV:= .lit (.int .u8 n)
abbrev owU (xs:List Int):AV:= .own 1 xs.length (xs.map lu)
abbrev slU (xs:List Int):AV:= .sl xs.length (xs.map lu)
abbrev u8 (n:Int):Int:=IntKind.u8.wrap n
end
end Go.Ideal.Tryd
end
section
namespace Go.Ideal
section
variable {k yk:IntKind} {a b:Int}
theorem c4x (h:0<=b):a1f .shr (.int k a) (.int yk b)=some (.int k (a.fdiv (2 ^ min b.toNat k.bits))):=by simp [a1f,Op.shift,show ¬ b < 0 by omega]; rfl
@[go_sem] theorem e84 (h:0<=b):a2e .shr 0 (.lit (.int k a)) (.lit (.int yk b))=some (.lit (.int k (a.fdiv (2 ^ min b.toNat k.bits)))):=by simp [a2e,b64,c4x h]
end
namespace Tryd
section
variable {G:GG} {Q:Exit->St->Prop} {st:St}
theorem b3e (xs:List Int) (n:Int) (h:xs.length < 2 ^ 40):ACallsX pg G a8a [.var [owU xs],li n] (.tup []) [(0,.var [owU (xs++[u8 n,u8 (n.fdiv 256)])])]:=by
 refine a6p (pins:=[0]) (by kernel_rfl) rfl rfl rfl rfl ?_
 simp (disch:=omega) [go_sem,a47]
end
end Tryd
def fm {α:Type} (f:α->List AV) (xs:List α):List AV:=xs.flatMap f
section
variable {α:Type} {f:α->List AV} {k:Nat} {xs:List α}
@[go_sem] theorem e1u {z y:AV} {zs:List AV}:b1u 1 (z::y::zs)=z::y::zs:=by simp [b1u]
@[go_sem] theorem d6h {zs:List AV}:b1u 0 zs=[]:=by simp [b1u]
theorem b0r:fm f []=[]:=rfl
theorem a4c {x:α}:fm f (x::xs)=f x++fm f xs:=rfl
theorem a4x (hf:∀ x,(f x).length=k):(fm f xs).length=xs.length*k:=by
 induction xs with
 | nil=>simp [fm]
 | cons x xs ih=>rw [a4c,List.length_append,hf,ih,List.length_cons,Nat.add_mul,Nat.one_mul,Nat.add_comm]
theorem b40 {x:α}:fm f [x]=f x:=by simp [fm]
theorem a2o (hf:∀ x,(f x).length=k):(fm f xs).take (xs.length*k)=fm f xs:=List.take_of_length_le (by rw [a4x hf]; exact Nat.le_refl _)
theorem b4z {ys:List α}:fm f (xs++ys)=fm f xs++fm f ys:=by simp [fm,List.flatMap_append]
theorem b0q (hf:∀ x,(f x).length=k) {i:Nat} (h:i < xs.length):((fm f xs).drop (i*k)).take k=f xs[i]:=by
 induction xs generalizing i with
 | nil=>simp at h
 | cons x xs ih=>
  rw [a4c]
  cases i with
  | zero=>rw [Nat.zero_mul,List.drop_zero,List.take_append_of_le_length (by rw [hf]; exact Nat.le_refl _),List.take_of_length_le (by rw [hf]; exact Nat.le_refl _)]; rfl
  | succ i=>
   rw [Nat.add_mul,Nat.one_mul,List.drop_append,hf,List.drop_of_length_le (by rw [hf]; omega),List.nil_append,Nat.add_sub_cancel]
   rw [ih (by simpa using h)]
   rfl
theorem b3m {a b:List AV}:a1b (a++b)=a1b a++a1b b:=by simp only [b6t,List.map_append]
theorem a67:a1b (fm f xs)=fm (fun x=>a1b (f x)) xs:=by
 induction xs with
 | nil=>simp [fm,a1b]
 | cons x xs ih=>rw [a4c,a4c,b3m,ih]
theorem b9b {a b:List AV}:a0k (a++b)=(a0k a&&a0k b):=by
 induction a with
 | nil=>simp [a0k]
 | cons x a ih=>simp only [List.cons_append,a0k,ih,Bool.and_assoc]
theorem b9a {a b:List AV}:a01 (a++b)=(a01 a&&a01 b):=by
 induction a with
 | nil=>simp [a01]
 | cons x a ih=>simp only [List.cons_append,a01,ih,Bool.and_assoc]
theorem a8v (h:∀ x,a0k (f x)=true):a0k (fm f xs)=true:=by
 induction xs with
 | nil=>simp [fm,a0k]
 | cons x xs ih=>rw [a4c,b9b,h,ih]; rfl
theorem a8u (h:∀ x,a01 (f x)=true):a01 (fm f xs)=true:=by
 induction xs with
 | nil=>simp [fm,a01]
 | cons x xs ih=>rw [a4c,b9a,h,ih]; rfl
end
end Go.Ideal
end
section
namespace Go.Ideal.Tryd
structure Nd where
 op:Int
 ins:List Int
 args:List Int
 shape:List Int
 wide:Bool
 data:List Int
def b2i (n:Nd):List AV:=[li n.op,slI n.ins,slI n.args,slI n.shape,lb n.wide,slI n.data]
@[go_sem] theorem d80 {xs:List Nd}:(fm b2i xs).length=xs.length*6:=a4x fun _=>rfl
@[go_sem] theorem d8z {xs:List Nd} {i:Nat} (h:i < xs.length):((fm b2i xs).drop (i*6)).take 6=[li xs[i].op,slI xs[i].ins,slI xs[i].args,slI xs[i].shape,lb xs[i].wide,slI xs[i].data]:=b0q (f:=b2i) (k:=6) (fun _=>rfl) h
@[go_sem] theorem d17 {xs:List Nd}:(fm b2i xs).take (xs.length*6)=fm b2i xs:=a2o fun _=>rfl
@[go_sem] theorem c73 {xs:List Nd}:a0k (fm b2i xs)=true:=a8v fun _=>rfl
@[go_sem] theorem d8y {xs:List Nd}:a1b (fm b2i xs)=fm b2i xs:=by
 rw [a67]; congr 1
section
variable {G:GG} {Q:Exit->St->Prop} {st:St}
def d18 (r:List Int):List AV:=[li 4,owI r,.own 1 0 [],.own 1 0 [],lb false,.own 1 0 []]
def f1a (r:List Int):Nd:=⟨4,r,[],[],false,[]⟩
@[go_sem] theorem d82 {xs:List (List Int)}:(fm d18 xs).length=xs.length*6:=a4x fun _=>rfl
@[go_sem] theorem d19 {xs:List (List Int)}:(fm d18 xs).take (xs.length*6)=fm d18 xs:=a2o fun _=>rfl
@[go_sem] theorem d81 {xs:List (List Int)}:a1b (fm d18 xs)=fm b2i (xs.map f1a):=by
 rw [a67]
 induction xs with
 | nil=>rfl
 | cons x xs ih=>
  rw [a4c,List.map_cons,a4c,ih]
  congr 1
  simp [d18,b2i,f1a,go_sem]
end
def sp (t:Nat):List (List Int)->Nat->List Int
 | [],_=>[]
 | r::rs,i=>(if (t:Int)∈r then [(i:Int)] else [])++sp t rs (i+1)
def a4z:IC:=(.seq (.reg [oo 2 (.box 39 2 (.t 0)),
 oo 3 (.box 39 2 (.t 1)),
 oo 4 (.asg (.c (.bool false)))]) (.seq (.reg [oo 6 (.faddr 39 0 (.t 2) 0),
 oo 7 (.load 34 none (.t 6)),
 oo 8 (.faddr 39 0 (.t 3) 0),
 oo 9 (.load 34 none (.t 8)),
 oc 10 19 [(false,(.t 7)),(false,(.t 9))] [34,34],
 oo 5 (.asg (.t 10))]) (.seq (.reg [om 11 5,
 om 12 11,
 og 13 (.faddr 39 1 (.t 2) 1) 1 12 true,
 og 14 (.load 4 none (.t 13)) 1 12 true,
 og 15 (.faddr 39 1 (.t 3) 1) 1 12 true,
 og 16 (.load 4 none (.t 15)) 1 12 true,
 og 17 (.bin .eql 4 1 (.t 14) (.t 16) 4) 1 12 true,
 oo 18 (.pick (.t 12) (.t 17) (.c (.bool false))),
 oo 4 (.asg (.t 18))]) .ret)))
abbrev a4v:Nat:=18
theorem a6y:fnC pg 18 19 [(.tmp 4)] a4z:=a1g Go.Proofs.Tryd.f18 [(.tmp 4)] (by kernel_rfl)
@[go_sem] theorem b48:fnB pg 18=true:=by kernel_rfl
def a43:IC:=(.seq (.reg [oo 2 (.box 44 3 (.t 0)),
 oo 4 (.asg (.c (.bool false)))]) (.seq (.reg [oo 5 (.faddr 44 0 (.t 2) 0),
 oo 6 (.load 39 (some 2) (.t 5)),
 oc 7 25 [(false,(.t 6))] [39],
 om 8 7,
 og 9 (.faddr 44 2 (.t 2) 1) 3 8 true,
 og 10 (.load 34 none (.t 9)) 3 8 true,
 og 11 (.len 34 false (.t 10)) 3 8 true,
 og 12 (.mv (.t 1)) 3 8 true,
 og 13 (.bin .leq 3 0 (.t 11) (.t 12) 3) 3 8 true,
 oo 14 (.pick (.t 8) (.t 13) (.c (.bool false))),
 oo 4 (.asg (.t 14))]) .ret))
abbrev a79:Nat:=57
theorem a63:fnC pg 57 15 [(.tmp 4)] a43:=a1g Go.Proofs.Tryd.f57 [(.tmp 4)] (by kernel_rfl)
@[go_sem] theorem b5d:fnB pg 57=true:=by kernel_rfl
def a3s:IC:=(.seq (.reg [oo 1 (.box 39 2 (.t 0)),
 oo 2 (.asg (.c (.bool false)))]) (.seq (.reg [oo 3 (.faddr 39 0 (.t 1) 0),
 oo 4 (.load 34 none (.t 3)),
 oo 5 (.len 34 false (.t 4)),
 oo 6 (.bin .leq 3 0 (.t 5) (.n 8) 3),
 oo 2 (.asg (.t 6))]) .ret))
abbrev a9h:Nat:=25
theorem a7y:fnC pg 25 7 [(.tmp 2)] a3s:=a1g Go.Proofs.Tryd.f25 [(.tmp 2)] (by kernel_rfl)
@[go_sem] theorem b66:fnB pg 25=true:=by kernel_rfl
def a35:IC:=(.seq (.reg [oo 2 (.box 44 3 (.t 0)),
 oo 3 (.box 44 3 (.t 1)),
 oo 4 (.asg (.c (.bool false)))]) (.seq (.reg [oo 7 (.faddr 44 0 (.t 2) 0),
 oo 8 (.load 39 (some 2) (.t 7)),
 oo 9 (.faddr 44 0 (.t 3) 0),
 oo 10 (.load 39 (some 2) (.t 9)),
 oc 11 18 [(false,(.t 8)),(false,(.t 10))] [39,39],
 oo 5 (.asg (.t 11))]) (.seq (.reg [oo 12 (.faddr 44 2 (.t 2) 1),
 oo 13 (.load 34 none (.t 12)),
 oo 14 (.faddr 44 2 (.t 3) 1),
 oo 15 (.load 34 none (.t 14)),
 oc 16 19 [(false,(.t 13)),(false,(.t 15))] [34,34],
 oo 6 (.asg (.t 16))]) (.seq (.reg [om 17 5,
 om 18 17,
 og 19 (.mv (.t 6)) 1 18 true,
 oo 20 (.pick (.t 18) (.t 19) (.c (.bool false))),
 oo 4 (.asg (.t 20))]) .ret))))
abbrev a31:Nat:=60
theorem a51:fnC pg 60 21 [(.tmp 4)] a35:=a1g Go.Proofs.Tryd.f60 [(.tmp 4)] (by kernel_rfl)
@[go_sem] theorem b3r:fnB pg 60=true:=by kernel_rfl
section
variable {G:GG} {Q:Exit->St->Prop} {st:St}
def c1w {α:Type} (p:α->Bool):List α->Nat->Int
 | [],_=> -1
 | x::xs,i=>if p x=true then i else c1w p xs (i+1)
theorem c0p {α:Type} {p:α->Bool} {bs:List α} {i k:Nat} (h:i < bs.length):c1w p (bs.drop i) k=if p bs[i]=true then (k:Int) else c1w p (bs.drop (i+1)) (k+1):=by
 rw [List.drop_eq_getElem_cons h]; rfl
theorem b75 {α:Type} {p:α->Bool}:∀ {bs:List α} {i:Nat},decide (0<=c1w p bs i)=bs.any p
 | [],i=>by simp [c1w]
 | x::xs,i=>by
  simp only [c1w,List.any_cons]
  by_cases h:p x=true
  ·simp [h]
  ·simp only [h,Bool.false_eq_true,if_false]
   rw [b75]; simp
theorem c2w {f:FuncId} (hf:fnB pg f=true) {p:Int->Bool} (xs:List Int) (hp:∀ x∈xs,ACallsX pg G f [li x] (lb (p x)) []) (hlen:xs.length < 2 ^ 62):ACallsX pg G a6x [slI xs,.fn f [] []] (li (c1w p xs 0)) []:=by
 refine a5f (pins:=[]) (by kernel_rfl) rfl rfl rfl rfl ?_
 simp (disch:=omega) [go_sem,a3p]
 refine a03 Nat (fun i st=>st.s 0=slI xs/\st.s 1= .fn f [] []/\st.s 7=li xs.length/\st.s 8=li i/\i<=xs.length/\c1w p (xs.drop i) i=c1w p xs 0) (fun i=>xs.length - i) 0 ?_ ?_
 ·simp (disch:=omega) [go_sem]
 ·rintro i st K ⟨h0,h1,h7,h8,hi,hno⟩ hK
  by_cases hlt:i < xs.length
  ·rw [c0p hlt] at hno
   simp (disch:=omega) [go_sem,a14,h0,h1,h7,h8,hlt,hf]
   refine a04 (hp _ (List.getElem_mem hlt)) rfl rfl rfl rfl ?_
   by_cases hv:p xs[i]=true
   ·rw [if_pos hv] at hno
    simp (disch:=omega) [go_sem,h0,h1,h7,h8,hlt,hv,<-hno]
   ·rw [if_neg hv] at hno
    have hv':p xs[i]=false:=by simpa using hv
    simp (disch:=omega) [go_sem,h0,h1,h7,h8,hlt,hv']
    exact hK (i+1) _ ⟨by simp (disch:=omega) [go_sem,h0],by simp (disch:=omega) [go_sem,h1],by simp (disch:=omega) [go_sem,h7],by simp (disch:=omega) [go_sem],by omega,hno⟩ (by omega)
  ·rw [List.drop_eq_nil_of_le (by omega)] at hno
   simp (disch:=omega) [go_sem,a14,h0,h1,h7,h8,hlt,<-hno,c1w]
theorem b6l {f:FuncId} (hf:fnB pg f=true) {p:Int->Bool} (xs:List Int) (hp:∀ x∈xs,ACallsX pg G f [li x] (lb (p x)) []) (hlen:xs.length < 2 ^ 62):ACallsX pg G a5o [slI xs,.fn f [] []] (lb (xs.any p)) []:=by
 refine a4d (pins:=[]) (by kernel_rfl) rfl rfl rfl rfl ?_
 simp (disch:=omega) [go_sem,a2w]
 refine a04 (c2w hf xs hp hlen) rfl rfl rfl rfl ?_
 simp (disch:=omega) [go_sem,b75]
end
def c2c (k:Int):Bool:=decide (1<=k/\k<=256)
def c1a:List Int->Int->Int
 | [],n=>n
 | k::ks,n=>c1a ks (n*k)
def c0b (sh:List Int):Er:=if 4 < sh.length then .s 2 else if sh.all c2c=true then (if 16384 < c1a sh 1 then .s 2 else .nil) else .s 3
def e7r (sh:List Int):Bool:=decide (sh.length<=4)&&sh.all c2c&&decide (c1a sh 1<=16384)
def b2h (sh:List Int):Int:=if e7r sh=true then c1a sh 1 else 0
theorem b8e:∀ {ks:List Int} {n:Int},ks.all c2c=true->0<=n->n<=c1a ks n
 | [],n,_,_=>Int.le_refl _
 | k::ks,n,h,hn=>by
  simp only [List.all_cons,Bool.and_eq_true] at h
  obtain ⟨ha,hb⟩:=h
  simp only [c2c,decide_eq_true_eq] at ha
  have h1:n*1<=n*k:=Int.mul_le_mul_of_nonneg_left ha.1 hn
  exact Int.le_trans (b:=n*k) (by omega) (b8e (ks:=ks) (n:=n*k) hb (by omega))
@[go_sem] theorem c71 {bk:Nat->Nat×Nat} (e:Er):noRef (a5c bk e)=true:=(c0c e).1
@[go_sem] theorem c70 {bk:Nat->Nat×Nat} (e:Er):a0j (a5c bk e)=true:=(c0c e).2
section
variable {G:GG} {bk:Nat->Nat×Nat} {Q:Exit->St->Prop} {st:St}
def b4u (sh:List Int) (w:Bool):Int:=if w=true then 4*b2h sh else b2h sh
theorem b8t (sh:List Int):0<=b2h sh/\b2h sh<=16384:=by
 unfold b2h
 split
 ·rename_i h
  simp only [e7r,Bool.and_eq_true,decide_eq_true_eq] at h
  have:=b8e (n:=1) h.1.2 (by omega)
  omega
 ·omega
def e4i (n:Int) (w:Bool):Bool:=if w=true then decide (-2147483648<=n/\n<=2147483647) else decide (-128<=n/\n<=127)
def b72 (w:Bool):List Int->Nat->Option Nat
 | [],_=>none
 | n::ns,i=>if e4i n w=true then b72 w ns (i+1) else some i
def d5t:Option Nat->Er
 | none=> .nil
 | some i=> .at i (.s 3)
def d7m (sh:List Int) (w:Bool) (data:List Int):Er:=if e7r sh=true then (if (data.length:Int)=b2h sh then d5t (b72 w data 0) else .s 6) else c0b sh
abbrev e2c (sh:List Int) (w:Bool) (data:List Int):AV:= .agg [slI sh,lb w,slI data]
end
@[go_sem] theorem c04 (xs:List Int):a01 (xs.map lu)=true:=a9o fun x=>by simp only [a0v]
@[go_sem] theorem d49 (xs:List Int):a0k (xs.map lu)=true:=a9q fun x=>by simp only [a0j]
@[go_sem] theorem d7h {α:Type} {f:α->AV} {xs:List α} {a:AV}:List.take (xs.length+1) (xs.map f++[a])=xs.map f++[a]:=List.take_of_length_le (by simp)
@[go_sem] theorem d7i {α:Type} {f:α->AV} {xs:List α} {a b:AV}:List.take (xs.length+2) (xs.map f++[a,b])=xs.map f++[a,b]:=List.take_of_length_le (by simp)
def b53 (w:Bool) (n:Int):List Int:=if w=true then [u8 n,u8 (n.fdiv 256),u8 (n.fdiv 65536),u8 (n.fdiv 16777216)] else [u8 n]
def le2 (k:Int):List Int:=[u8 k,u8 (k.fdiv 256)]
section
variable {G:GG} {bk:Nat->Nat×Nat} {Q:Exit->St->Prop} {st:St}
end
structure Gr where
 nodes:List Nd
 out:Int
def c5d (n:Nd):List AV:=[li n.op,owI n.ins,owI n.args,owI n.shape,lb n.wide,owI n.data]
@[go_sem] theorem d8x {xs:List Nd}:(fm c5d xs).length=xs.length*6:=a4x fun _=>rfl
@[go_sem] theorem d16 {xs:List Nd}:(fm c5d xs).take (xs.length*6)=fm c5d xs:=a2o fun _=>rfl
@[go_sem] theorem d8w {xs:List Nd}:a1b (fm c5d xs)=fm b2i xs:=by
 rw [a67]
 congr 1
 funext n
 simp [c5d,b2i,go_sem]
@[go_sem] theorem c72 {xs:List Nd}:a01 (fm c5d xs)=true:=a8u fun n=>by simp [c5d,go_sem]
theorem a8y (xs:List Int):a0v (owI xs)=true:=by simp only [a0v]; exact a7d xs
section
variable {G:GG} {bk:Nat->Nat×Nat} {Q:Exit->St->Prop} {st:St}
theorem b7t (sh:List Int) (w:Bool) (hlen:sh.length < 2 ^ 62):ACalls pg G a9h [.agg [slI sh,lb w]] (lb (decide (sh.length<=8))):=by
 refine a7y rfl ?_
 by_cases h:sh.length<=8
 ·have h':(sh.length:Int)<=8:=by omega
  simp (disch:=omega) [go_sem,a3s,h,h']
 ·have h':¬ (sh.length:Int)<=8:=by omega
  simp (disch:=omega) [go_sem,a3s,h,h']
theorem c6t (sh:List Int) (w:Bool) (data:List Int) (m:Nat) (hlen:sh.length < 2 ^ 62):ACalls pg G a79 [e2c sh w data,li m] (lb (decide (sh.length<=8)&&decide (data.length<=m))):=by
 refine a63 rfl ?_
 simp (disch:=omega) [go_sem,a43]
 refine a0p (b7t sh w hlen) rfl rfl ?_
 by_cases h:sh.length<=8
 ·by_cases h2:data.length<=m
  ·have h2':(data.length:Int)<=m:=by omega
   simp (disch:=omega) [go_sem,h,h2,h2']
  ·have h2':¬ (data.length:Int)<=m:=by omega
   simp (disch:=omega) [go_sem,h,h2,h2']
 ·simp (disch:=omega) [go_sem,h]
structure Nd.fin (n:Nd):Prop where
 ins:n.ins.length < 2 ^ 62
 args:n.args.length < 2 ^ 62
 shape:n.shape.length < 2 ^ 62
 data:n.data.length < 2 ^ 62
structure Nd.sh (n:Nd):Prop where
 ins:n.ins.length < 2 ^ 36
 args:n.args.length < 2 ^ 36
 shape:n.shape.length < 2 ^ 36
 data:n.data.length < 2 ^ 36
theorem b7n (sh:List Int) (w:Bool) (hlen:sh.length < 2 ^ 62):ACalls pg G a4v [.agg [slI sh,lb w],.agg [slI sh,lb w]] (lb true):=by
 refine a6y rfl ?_
 simp (disch:=omega) [go_sem,a4z]
 refine a0p (a7r hlen) rfl rfl ?_
 simp (disch:=omega) [go_sem]
theorem c3j (sh:List Int) (w:Bool) (data:List Int) (hlen:sh.length < 2 ^ 62) (hl:data.length < 2 ^ 62):ACalls pg G a31 [e2c sh w data,e2c sh w data] (lb true):=by
 refine a51 rfl ?_
 simp (disch:=omega) [go_sem,a35]
 refine a0p (b7n sh w hlen) rfl rfl ?_
 simp (disch:=omega) [go_sem]
 refine a0p (a7r hl) rfl rfl ?_
 simp (disch:=omega) [go_sem]
end
def e00 (a:Int):Bool:= !decide (-2147483648<=a/\a<=2147483647)
section
variable {G:GG} {bk:Nat->Nat×Nat} {Q:Exit->St->Prop} {st:St}
theorem c5j (n:Int):ACalls pg G b56 [li n] (lb (decide (-2147483648<=n/\n<=2147483647))):=by
 refine b14 rfl ?_
 by_cases h1: -2147483648<=n<;>by_cases h2:n<=2147483647<;>simp (disch:=omega) [go_sem,b07,h1,h2]
theorem b3u (xs:List Int) (n:Int) (h:xs.length < 2 ^ 40):ACallsX pg G a7w [.var [owU xs],li n] (.tup []) [(0,.var [owU (xs++b53 true n)])]:=by
 refine a54 (pins:=[0]) (by kernel_rfl) rfl rfl rfl rfl ?_
 simp (disch:=omega) [go_sem,a4l,b53]
end
theorem c53 (b:List Int):(a0v (AV.tup [])&&[((0:Nat),AV.var [owU b])].all fun p=>a0v p.2)=true:=by simp [a0v,a01,c04]
structure Nd.good (n:Nd):Prop where
 ins:n.ins.length<=8
 args:n.args.length<=8
 tens:n.op=2->d7m n.shape n.wide n.data= .nil
section
variable {G:GG} {bk:Nat->Nat×Nat} {Q:Exit->St->Prop} {st:St}
end
end Go.Ideal.Tryd
end
section
namespace Go.Ideal
theorem b3i {α:Type} {f:α->List AV} {k:Nat} {xs:List α} (hf:∀ x,(f x).length=k) {i j:Nat} (h:i < xs.length) (hj:j < k):(fm f xs)[i*k+j]? =(f xs[i])[j]? :=by
 have h1:=b0q (f:=f) (k:=k) hf h
 rw [<-h1,List.getElem?_take,if_pos hj,List.getElem?_drop]
theorem c32 {α:Type} {f:α->List AV} {k:Nat} {xs:List α} (hf:∀ x,(f x).length=k) {i j m:Nat} (h:i < xs.length) (hj:j+m<=k):((fm f xs).drop (i*k+j)).take m=((f xs[i]).drop j).take m:=by
 have h1:=b0q (f:=f) (k:=k) hf h
 rw [<-h1,List.drop_take,List.take_take,List.drop_drop,Nat.min_eq_left (by omega)]
namespace Tryd
section
variable {xs:List Nd} {i:Nat}
@[go_sem] theorem e9v (h:i < xs.length):(fm b2i xs)[i*6]? =some (li xs[i].op):=b3i (f:=b2i) (k:=6) (j:=0) (fun _=>rfl) h (by omega)
@[go_sem] theorem e9w (h:i < xs.length):(fm b2i xs)[i*6+1]? =some (slI xs[i].ins):=b3i (f:=b2i) (k:=6) (fun _=>rfl) h (by omega)
@[go_sem] theorem e9x (h:i < xs.length):(fm b2i xs)[i*6+2]? =some (slI xs[i].args):=b3i (f:=b2i) (k:=6) (fun _=>rfl) h (by omega)
@[go_sem] theorem e9y (h:i < xs.length):((fm b2i xs).drop (i*6+3)).take 3=[slI xs[i].shape,lb xs[i].wide,slI xs[i].data]:=c32 (f:=b2i) (k:=6) (fun _=>rfl) h (by omega)
end
section
variable {G:GG} {bk:Nat->Nat×Nat} {Q:Exit->St->Prop} {st:St}
end
end Tryd
end Go.Ideal
end
section
namespace Go.Ideal.Tryd
def Er.isNil:Er->Bool
 | .nil=>true
 | _=>false
section
variable {G:GG} {bk:Nat->Nat×Nat} {Q:Exit->St->Prop} {st:St}
end
def a5i:IC:=(.seq (.reg [oo 0 (.asg (.c (.bool false)))]) (.seq (.reg [oo 4 (.build 27 [.lit (.int .i64 0),.sl 0 [],.sl 0 [],.sl 0 [],.sl 0 [],.lit (.int .i64 0),.lit (.int .i64 0)] []),
 oc 5 23 [(false,(.t 4))] [27],
 oo 3 (.mva (.t 5)),
 oo 6 (.ext (.t 3) 0),
 oo 7 (.ext (.t 3) 1),
 oo 1 (.asg (.t 6)),
 oo 2 (.asg (.t 7))]) (.seq (.reg [om 8 2,
 oo 9 (.bin .eql 53 2 (.t 8) (.c .nilIface) 53),
 om 10 9,
 og 11 (.mv (.t 1)) 2 10 true,
 og 12 (.len 69 false (.t 11)) 2 10 true,
 og 13 (.bin .eql 3 0 (.t 12) (.n 22) 3) 2 10 true,
 oo 14 (.pick (.t 10) (.t 13) (.c (.bool false))),
 oo 0 (.asg (.t 14))]) .ret)))
abbrev a8m:Nat:=8
theorem a7b:fnC pg 8 15 [(.tmp 0)] a5i:=a1g Go.Proofs.Tryd.f8 [(.tmp 0)] (by kernel_rfl)
@[go_sem] theorem b52:fnB pg 8=true:=by kernel_rfl
@[go_sem] def lodgeworld_Plan_r3:List AO:=[oo 3 (.asg (.n 0))]
def a1p:IC:=(.seq (.seq (.reg [om 28 3,
 oo 29 (.faddr 27 1 (.t 1) 1),
 oo 30 (.load 22 none (.t 29)),
 oo 31 (.len 22 false (.t 30)),
 oo 32 (.bin .lss 3 0 (.t 28) (.t 31) 3)]) (.cond (.t 32) .skip (.exit 0))) (.seq (.block 1 (.seq (.reg [oo 35 (.faddr 27 1 (.t 1) 1),
 oo 36 (.load 22 none (.t 35)),
 om 37 3,
 oo 38 (.iaddr 22 3 (.t 36) (.t 37)),
 oo 39 (.faddr 41 1 (.t 38) 1),
 oo 40 (.load 39 (some 2) (.t 39)),
 oc 41 25 [(false,(.t 40))] [39],
 oo 42 (.un .not 4 (.t 41))]) (.cond (.t 42) (.seq (.reg [oo 2 (.asg (.c (.bool false)))]) .ret) .skip))) (.reg [om 33 3,
 oo 34 (.bin .add 3 0 (.t 33) (.n 1) 3),
 oo 3 (.asg (.t 34))])))
@[go_sem] def lodgeworld_Plan_r8:List AO:=[oo 4 (.asg (.n 0))]
def a1q:IC:=(.seq (.seq (.reg [om 43 4,
 oo 44 (.faddr 27 3 (.t 1) 3),
 oo 45 (.load 24 none (.t 44)),
 oo 46 (.len 24 false (.t 45)),
 oo 47 (.bin .lss 3 0 (.t 43) (.t 46) 3)]) (.cond (.t 47) .skip (.exit 2))) (.seq (.block 3 (.seq (.reg [oo 50 (.faddr 27 3 (.t 1) 3),
 oo 51 (.load 24 none (.t 50)),
 om 52 4,
 oo 53 (.iaddr 24 2 (.t 51) (.t 52)),
 oo 54 (.load 39 (some 2) (.t 53)),
 oc 55 25 [(false,(.t 54))] [39],
 oo 56 (.un .not 4 (.t 55))]) (.cond (.t 56) (.seq (.reg [oo 2 (.asg (.c (.bool false)))]) .ret) .skip))) (.reg [om 48 4,
 oo 49 (.bin .add 3 0 (.t 48) (.n 1) 3),
 oo 4 (.asg (.t 49))])))
@[go_sem] def lodgeworld_Plan_r13:List AO:=[oo 5 (.asg (.n 0))]
def a05:IC:=(.seq (.seq (.reg [om 57 5,
 oo 58 (.faddr 27 4 (.t 1) 4),
 oo 59 (.load 25 none (.t 58)),
 oo 60 (.len 25 false (.t 59)),
 oo 61 (.bin .lss 3 0 (.t 57) (.t 60) 3)]) (.cond (.t 61) .skip (.exit 4))) (.seq (.block 5 (.seq (.reg [oo 64 (.faddr 27 4 (.t 1) 4),
 oo 65 (.load 25 none (.t 64)),
 om 66 5,
 oo 67 (.iaddr 25 6 (.t 65) (.t 66)),
 oo 68 (.faddr 36 2 (.t 67) 2),
 oo 69 (.load 34 none (.t 68)),
 oo 70 (.len 34 false (.t 69)),
 oo 71 (.bin .gtr 3 0 (.t 70) (.n 10) 3),
 om 72 71,
 og 73 (.faddr 27 4 (.t 1) 4) 8 72 false,
 og 74 (.load 25 none (.t 73)) 8 72 false,
 og 75 (.mv (.t 5)) 8 72 false,
 og 76 (.iaddr 25 6 (.t 74) (.t 75)) 8 72 false,
 og 77 (.faddr 36 3 (.t 76) 3) 8 72 false,
 og 78 (.load 34 none (.t 77)) 8 72 false,
 og 79 (.len 34 false (.t 78)) 8 72 false,
 og 80 (.bin .gtr 3 0 (.t 79) (.n 10) 3) 8 72 false,
 oo 81 (.pick (.t 72) (.c (.bool true)) (.t 80))]) (.cond (.t 81) (.seq (.reg [oo 2 (.asg (.c (.bool false)))]) .ret) .skip))) (.reg [om 62 5,
 oo 63 (.bin .add 3 0 (.t 62) (.n 1) 3),
 oo 5 (.asg (.t 63))])))
@[go_sem] def lodgeworld_Plan_r18:List AO:=[oo 2 (.asg (.c (.bool true)))]
def a1h:IC:=(.seq (.reg [oo 1 (.box 27 7 (.t 0)),
 oo 2 (.asg (.c (.bool false)))]) (.seq (.seq (.reg [oo 6 (.faddr 27 1 (.t 1) 1),
 oo 7 (.load 22 none (.t 6)),
 oo 8 (.len 22 false (.t 7)),
 oo 9 (.bin .gtr 3 0 (.t 8) (.n 140) 3),
 om 10 9,
 og 11 (.faddr 27 3 (.t 1) 3) 4 10 false,
 og 12 (.load 24 none (.t 11)) 4 10 false,
 og 13 (.len 24 false (.t 12)) 4 10 false,
 og 14 (.bin .gtr 3 0 (.t 13) (.n 10) 3) 4 10 false,
 oo 15 (.pick (.t 10) (.c (.bool true)) (.t 14)),
 om 16 15,
 og 17 (.faddr 27 4 (.t 1) 4) 10 16 false,
 og 18 (.load 25 none (.t 17)) 10 16 false,
 og 19 (.len 25 false (.t 18)) 10 16 false,
 og 20 (.bin .gtr 3 0 (.t 19) (.n 300) 3) 10 16 false,
 oo 21 (.pick (.t 16) (.c (.bool true)) (.t 20)),
 om 22 21,
 og 23 (.faddr 27 2 (.t 1) 2) 16 22 false,
 og 24 (.load 23 none (.t 23)) 16 22 false,
 ⟨(some 25),.call 24 [(false,(.t 24)),(false,(.n 70)),(false,(.n 300))] [23,3,3],(some (16,22,false))⟩,
 og 26 (.un .not 4 (.t 25)) 16 22 false,
 oo 27 (.pick (.t 22) (.c (.bool true)) (.t 26))]) (.cond (.t 27) (.seq (.reg [oo 2 (.asg (.c (.bool false)))]) .ret) .skip)) (.seq (.seq (.reg lodgeworld_Plan_r3) (.block 0 (.loop a1p))) (.seq (.seq (.reg lodgeworld_Plan_r8) (.block 2 (.loop a1q))) (.seq (.seq (.reg lodgeworld_Plan_r13) (.block 4 (.loop a05))) (.seq (.reg lodgeworld_Plan_r18) .ret))))))
abbrev a9i:Nat:=9
theorem a7z:fnC pg 9 82 [(.tmp 2)] a1h:=a1g Go.Proofs.Tryd.f9 [(.tmp 2)] (by kernel_rfl)
@[go_sem] theorem b67:fnB pg 9=true:=by kernel_rfl
def a2h:IC:=(.seq (.seq (.reg [om 12 7,
 om 13 0,
 oo 14 (.len 23 false (.t 13)),
 oo 15 (.bin .lss 3 0 (.t 12) (.t 14) 3)]) (.cond (.t 15) .skip (.exit 0))) (.seq (.block 1 (.seq (.reg [om 18 0,
 om 19 7,
 oo 20 (.iaddr 23 3 (.t 18) (.t 19)),
 oo 21 (.load 44 (some 3) (.t 20)),
 om 22 2,
 oc 23 57 [(false,(.t 21)),(false,(.t 22))] [44,3],
 oo 24 (.un .not 4 (.t 23))]) (.cond (.t 24) (.seq (.reg [oo 6 (.asg (.c (.bool false)))]) .ret) .skip))) (.reg [om 16 7,
 oo 17 (.bin .add 3 0 (.t 16) (.n 1) 3),
 oo 7 (.asg (.t 17))])))
def a2q:IC:=(.seq (.reg [oo 6 (.asg (.c (.bool false)))]) (.seq (.seq (.reg [om 8 0,
 oo 9 (.len 23 false (.t 8)),
 om 10 1,
 oo 11 (.bin .gtr 3 0 (.t 9) (.t 10) 3)]) (.cond (.t 11) (.seq (.reg [oo 6 (.asg (.c (.bool false)))]) .ret) .skip)) (.seq (.seq (.reg [oo 7 (.asg (.n 0))]) (.block 0 (.loop a2h))) (.seq (.reg [oo 6 (.asg (.c (.bool true)))]) .ret))))
abbrev a7v:Nat:=24
theorem a6h:fnC pg 24 25 [(.tmp 6)] a2q:=a1g Go.Proofs.Tryd.f24 [(.tmp 6)] (by kernel_rfl)
@[go_sem] theorem b4c:fnB pg 24=true:=by kernel_rfl
def a46:IC:=(.seq (.reg [oo 2 (.box 27 7 (.t 0)),
 oo 3 (.box 27 7 (.t 1)),
 oo 4 (.asg (.c (.bool false)))]) (.seq (.reg [oo 5 (.asg (.f 29))]) (.seq (.reg [oo 6 (.faddr 27 0 (.t 2) 0),
 oo 7 (.load 3 none (.t 6)),
 oo 8 (.faddr 27 0 (.t 3) 0),
 oo 9 (.load 3 none (.t 8)),
 oo 10 (.bin .eql 3 0 (.t 7) (.t 9) 3),
 om 11 10,
 og 12 (.faddr 27 5 (.t 2) 5) 5 11 true,
 og 13 (.load 3 none (.t 12)) 5 11 true,
 og 14 (.faddr 27 5 (.t 3) 5) 5 11 true,
 og 15 (.load 3 none (.t 14)) 5 11 true,
 og 16 (.bin .eql 3 0 (.t 13) (.t 15) 3) 5 11 true,
 oo 17 (.pick (.t 11) (.t 16) (.c (.bool false))),
 om 18 17,
 og 19 (.faddr 27 6 (.t 2) 6) 12 18 true,
 og 20 (.load 3 none (.t 19)) 12 18 true,
 og 21 (.faddr 27 6 (.t 3) 6) 12 18 true,
 og 22 (.load 3 none (.t 21)) 12 18 true,
 og 23 (.bin .eql 3 0 (.t 20) (.t 22) 3) 12 18 true,
 oo 24 (.pick (.t 18) (.t 23) (.c (.bool false))),
 om 25 24,
 og 26 (.faddr 27 1 (.t 2) 1) 19 25 true,
 og 27 (.load 22 none (.t 26)) 19 25 true,
 og 28 (.faddr 27 1 (.t 3) 1) 19 25 true,
 og 29 (.load 22 none (.t 28)) 19 25 true,
 og 30 (.mv (.t 5)) 19 25 true,
 ⟨(some 31),.callx (.f 31) [(false,(.t 27)),(false,(.t 29))] [.p 0,.p 1,.x (.t 30)] [22,22,77],(some (19,25,true))⟩,
 oo 32 (.pick (.t 25) (.t 31) (.c (.bool false))),
 om 33 32,
 og 34 (.faddr 27 2 (.t 2) 2) 27 33 true,
 og 35 (.load 23 none (.t 34)) 27 33 true,
 og 36 (.faddr 27 2 (.t 3) 2) 27 33 true,
 og 37 (.load 23 none (.t 36)) 27 33 true,
 ⟨(some 38),.callx (.f 32) [(false,(.t 35)),(false,(.t 37))] [.p 0,.p 1,.x (.f 33)] [23,23,80],(some (27,33,true))⟩,
 oo 39 (.pick (.t 33) (.t 38) (.c (.bool false))),
 om 40 39,
 og 41 (.faddr 27 3 (.t 2) 3) 34 40 true,
 og 42 (.load 24 none (.t 41)) 34 40 true,
 og 43 (.faddr 27 3 (.t 3) 3) 34 40 true,
 og 44 (.load 24 none (.t 43)) 34 40 true,
 ⟨(some 45),.callx (.f 34) [(false,(.t 42)),(false,(.t 44))] [.p 0,.p 1,.x (.f 30)] [24,24,60],(some (34,40,true))⟩,
 oo 46 (.pick (.t 40) (.t 45) (.c (.bool false))),
 om 47 46,
 og 48 (.faddr 27 4 (.t 2) 4) 41 47 true,
 og 49 (.load 25 none (.t 48)) 41 47 true,
 og 50 (.faddr 27 4 (.t 3) 4) 41 47 true,
 og 51 (.load 25 none (.t 50)) 41 47 true,
 ⟨(some 52),.callx (.f 35) [(false,(.t 49)),(false,(.t 51))] [.p 0,.p 1,.x (.f 36)] [25,25,83],(some (41,47,true))⟩,
 oo 53 (.pick (.t 47) (.t 52) (.c (.bool false))),
 oo 4 (.asg (.t 53))]) .ret)))
abbrev b57:Nat:=11
theorem b15:fnC pg 11 54 [(.tmp 4)] a46:=a1g Go.Proofs.Tryd.f11 [(.tmp 4)] (by kernel_rfl)
@[go_sem] theorem c3b:fnB pg 11=true:=by kernel_rfl
def a40:IC:=(.seq (.reg [oo 2 (.box 27 7 (.t 0)),
 oo 3 (.box 27 7 (.t 1)),
 oo 4 (.asg (.c (.bool false)))]) (.seq (.reg [oo 9 (.faddr 27 1 (.t 2) 1),
 oo 10 (.load 22 none (.t 9)),
 oo 11 (.faddr 27 1 (.t 3) 1),
 oo 12 (.load 22 none (.t 11)),
 oc 13 37 [(false,(.t 10)),(false,(.t 12))] [22,22],
 oo 5 (.asg (.t 13))]) (.seq (.reg [oo 14 (.faddr 27 2 (.t 2) 2),
 oo 15 (.load 23 none (.t 14)),
 oo 16 (.faddr 27 2 (.t 3) 2),
 oo 17 (.load 23 none (.t 16)),
 oc 18 38 [(false,(.t 15)),(false,(.t 17))] [23,23],
 oo 6 (.asg (.t 18))]) (.seq (.reg [oo 19 (.faddr 27 3 (.t 2) 3),
 oo 20 (.load 24 none (.t 19)),
 oo 21 (.faddr 27 3 (.t 3) 3),
 oo 22 (.load 24 none (.t 21)),
 oc 23 39 [(false,(.t 20)),(false,(.t 22))] [24,24],
 oo 7 (.asg (.t 23))]) (.seq (.reg [oo 24 (.faddr 27 4 (.t 2) 4),
 oo 25 (.load 25 none (.t 24)),
 oo 26 (.faddr 27 4 (.t 3) 4),
 oo 27 (.load 25 none (.t 26)),
 oc 28 40 [(false,(.t 25)),(false,(.t 27))] [25,25],
 oo 8 (.asg (.t 28))]) (.seq (.reg [om 29 5,
 om 30 29,
 og 31 (.mv (.t 6)) 1 30 true,
 oo 32 (.pick (.t 30) (.t 31) (.c (.bool false))),
 om 33 32,
 og 34 (.mv (.t 7)) 4 33 true,
 oo 35 (.pick (.t 33) (.t 34) (.c (.bool false))),
 om 36 35,
 og 37 (.mv (.t 8)) 7 36 true,
 oo 38 (.pick (.t 36) (.t 37) (.c (.bool false))),
 om 39 38,
 og 40 (.faddr 27 0 (.t 2) 0) 10 39 true,
 og 41 (.load 3 none (.t 40)) 10 39 true,
 og 42 (.faddr 27 0 (.t 3) 0) 10 39 true,
 og 43 (.load 3 none (.t 42)) 10 39 true,
 og 44 (.bin .eql 3 0 (.t 41) (.t 43) 3) 10 39 true,
 oo 45 (.pick (.t 39) (.t 44) (.c (.bool false))),
 om 46 45,
 og 47 (.faddr 27 5 (.t 2) 5) 17 46 true,
 og 48 (.load 3 none (.t 47)) 17 46 true,
 og 49 (.faddr 27 5 (.t 3) 5) 17 46 true,
 og 50 (.load 3 none (.t 49)) 17 46 true,
 og 51 (.bin .eql 3 0 (.t 48) (.t 50) 3) 17 46 true,
 oo 52 (.pick (.t 46) (.t 51) (.c (.bool false))),
 om 53 52,
 og 54 (.faddr 27 6 (.t 2) 6) 24 53 true,
 og 55 (.load 3 none (.t 54)) 24 53 true,
 og 56 (.faddr 27 6 (.t 3) 6) 24 53 true,
 og 57 (.load 3 none (.t 56)) 24 53 true,
 og 58 (.bin .eql 3 0 (.t 55) (.t 57) 3) 24 53 true,
 oo 59 (.pick (.t 53) (.t 58) (.c (.bool false))),
 oo 4 (.asg (.t 59))]) .ret))))))
abbrev a76:Nat:=12
theorem a60:fnC pg 12 60 [(.tmp 4)] a40:=a1g Go.Proofs.Tryd.f12 [(.tmp 4)] (by kernel_rfl)
@[go_sem] theorem b5a:fnB pg 12=true:=by kernel_rfl
def a9d:IC:=(.seq (.reg [oo 1 (.box 39 2 (.t 0)),
 oo 2 (.alloc 39 [.own 1 0 [],.lit (.bool false)])]) (.seq (.draw [oo 3 (.faddr 39 0 (.t 1) 0),
 oo 4 (.load 34 none (.t 3)),
 oc 5 28 [(false,(.t 4))] [34],
 oo 6 (.faddr 39 1 (.t 1) 1),
 oo 7 (.load 4 none (.t 6)),
 oo 8 (.build 39 [.own 1 0 [],.lit (.bool false)] [(0,0,1,(.t 5)),(1,1,1,(.t 7))]),
 ov (.store 39 2 (.t 2) (.t 8))] [[],[0],[1],[],[3],[2,4],[5,2,0,1,2,3,4,5]]) .ret))
abbrev b23:Nat:=26
theorem b0f:fnC pg 26 9 [(.cells 2 2)] a9d:=a1g Go.Proofs.Tryd.f26 [(.cell 2 39)] (by kernel_rfl)
@[go_sem] theorem c1j:fnB pg 26=true:=by kernel_rfl
def a98:IC:=(.seq (.reg [oo 1 (.box 44 3 (.t 0)),
 oo 2 (.alloc 44 [.own 1 0 [],.lit (.bool false),.own 1 0 []])]) (.seq (.draw [oo 3 (.faddr 44 0 (.t 1) 0),
 oo 4 (.load 39 (some 2) (.t 3)),
 oc 5 26 [(false,(.t 4))] [39],
 oo 6 (.faddr 44 2 (.t 1) 1),
 oo 7 (.load 34 none (.t 6)),
 oc 8 28 [(false,(.t 7))] [34],
 oo 9 (.build 44 [.own 1 0 [],.lit (.bool false),.own 1 0 []] [(0,0,2,(.t 5)),(1,2,1,(.t 8))]),
 ov (.store 44 3 (.t 2) (.t 9))] [[],[0],[1],[],[3],[4,2],[2,5],[6,5,0,1,2,3,4,5,6]]) .ret))
abbrev b4j:Nat:=27
theorem b1l:fnC pg 27 10 [(.cells 2 3)] a98:=a1g Go.Proofs.Tryd.f27 [(.cell 2 44)] (by kernel_rfl)
@[go_sem] theorem c11:fnB pg 27=true:=by kernel_rfl
def a5n:IC:=(.seq (.reg [oo 2 (.asg (.nl 1))]) (.seq (.seq (.reg [om 3 0,
 ⟨(some 4),.nilq 34 (.t 3) 34,none⟩]) (.cond (.t 4) (.seq (.reg [oo 2 (.asg (.nl 1))]) .ret) .skip)) (.seq (.reg [oo 5 (.bslice 34 3 1 0 [.lit (.int .i64 0)] []),
 om 6 0,
 oo 7 (.app 34 3 1 8 (.t 5) (.t 6)),
 oo 2 (.asg (.t 7))]) .ret)))
abbrev a8o:Nat:=28
theorem a7l:fnC pg 28 8 [(.tmp 2)] a5n:=a1g Go.Proofs.Tryd.f28 [(.tmp 2)] (by kernel_rfl)
@[go_sem] theorem b54:fnB pg 28=true:=by kernel_rfl
def a6o:IC:=(.seq (.reg [oo 2 (.box 41 3 (.t 0)),
 oo 3 (.box 41 3 (.t 1)),
 oo 4 (.asg (.c (.bool false)))]) (.seq (.reg [oo 5 (.faddr 41 0 (.t 2) 0),
 oo 6 (.load 3 none (.t 5)),
 oo 7 (.faddr 41 0 (.t 3) 0),
 oo 8 (.load 3 none (.t 7)),
 oo 9 (.bin .eql 3 0 (.t 6) (.t 8) 3),
 om 10 9,
 og 11 (.faddr 41 1 (.t 2) 1) 5 10 true,
 og 12 (.load 39 (some 2) (.t 11)) 5 10 true,
 og 13 (.faddr 41 1 (.t 3) 1) 5 10 true,
 og 14 (.load 39 (some 2) (.t 13)) 5 10 true,
 ⟨(some 15),.call 30 [(false,(.t 12)),(false,(.t 14))] [39,39],(some (5,10,true))⟩,
 oo 16 (.pick (.t 10) (.t 15) (.c (.bool false))),
 oo 4 (.asg (.t 16))]) .ret))
theorem b0d:fnC pg 29 17 [(.tmp 4)] a6o:=a1g Go.Proofs.Tryd.f29 [(.tmp 4)] (by kernel_rfl)
@[go_sem] theorem b08:fnB pg 29=true:=by kernel_rfl
def a7k:IC:=(.seq (.reg [oo 2 (.box 39 2 (.t 0)),
 oo 3 (.box 39 2 (.t 1)),
 oo 4 (.asg (.c (.bool false)))]) (.seq (.reg [oo 5 (.faddr 39 1 (.t 2) 1),
 oo 6 (.load 4 none (.t 5)),
 oo 7 (.faddr 39 1 (.t 3) 1),
 oo 8 (.load 4 none (.t 7)),
 oo 9 (.bin .eql 4 1 (.t 6) (.t 8) 4),
 om 10 9,
 og 11 (.faddr 39 0 (.t 2) 0) 5 10 true,
 og 12 (.load 34 none (.t 11)) 5 10 true,
 og 13 (.faddr 39 0 (.t 3) 0) 5 10 true,
 og 14 (.load 34 none (.t 13)) 5 10 true,
 ⟨(some 15),.call 58 [(false,(.t 12)),(false,(.t 14))] [34,34],(some (5,10,true))⟩,
 oo 16 (.pick (.t 10) (.t 15) (.c (.bool false))),
 oo 4 (.asg (.t 16))]) .ret))
abbrev b4i:Nat:=30
theorem b1f:fnC pg 30 17 [(.tmp 4)] a7k:=a1g Go.Proofs.Tryd.f30 [(.tmp 4)] (by kernel_rfl)
@[go_sem] theorem b18:fnB pg 30=true:=by kernel_rfl
def a1x:IC:=(.seq (.reg [oo 18 (.bin .lss 3 0 (.t 17) (.t 16) 3)]) (.seq (.cond (.t 18) .skip (.exit 0)) (.seq (.block 1 (.seq (.reg [om 19 17,
 oo 20 (.iaddr 22 3 (.t 15) (.t 17)),
 oo 21 (.load 41 (some 3) (.t 20)),
 oo 8 (.alloc 41 [.lit (.int .i64 0),.own 1 0 [],.lit (.bool false)]),
 oo 7 (.asg (.t 19)),
 ov (.store 41 3 (.t 8) (.t 21))]) (.seq (.reg [om 22 1,
 om 23 7,
 oo 24 (.iaddr 22 3 (.t 22) (.t 23)),
 oo 25 (.load 41 (some 3) (.t 24)),
 oo 9 (.alloc 41 [.lit (.int .i64 0),.own 1 0 [],.lit (.bool false)]),
 ov (.store 41 3 (.t 9) (.t 25))]) (.seq (.reg [om 26 2,
 oo 27 (.load 41 (some 3) (.t 8)),
 oo 28 (.load 41 (some 3) (.t 9)),
 ⟨(some 29),.callx (.t 26) [(false,(.t 27)),(false,(.t 28))] [.p 0,.p 1] [41,41],none⟩,
 oo 30 (.un .not 4 (.t 29))]) (.cond (.t 30) (.seq (.reg [oo 6 (.asg (.c (.bool false)))]) .ret) .skip))))) (.reg [oo 31 (.bin .add 3 0 (.t 17) (.n 1) 3),
 om 17 31]))))
def a13:IC:=(.seq (.reg [oo 6 (.asg (.c (.bool false)))]) (.seq (.seq (.reg [om 10 0,
 oo 11 (.len 22 false (.t 10)),
 om 12 1,
 oo 13 (.len 22 false (.t 12)),
 oo 14 (.bin .neq 3 0 (.t 11) (.t 13) 3)]) (.cond (.t 14) (.seq (.reg [oo 6 (.asg (.c (.bool false)))]) .ret) .skip)) (.seq (.seq (.reg [om 15 0,
 oo 16 (.len 22 false (.t 15)),
 oo 17 (.mv (.n 0))]) (.block 0 (.loop a1x))) (.seq (.reg [oo 6 (.asg (.c (.bool true)))]) .ret))))
abbrev a6a:Nat:=31
@[go_sem] theorem b2a:fnB pg 31=true:=by kernel_rfl
theorem a49:fnX pg 31 32 [(.tmp 6)] [(.tmp 6)] a13:=a6v Go.Proofs.Tryd.f31 (by kernel_rfl)
def a1m:IC:=(.seq (.reg [oo 18 (.bin .lss 3 0 (.t 17) (.t 16) 3)]) (.seq (.cond (.t 18) .skip (.exit 0)) (.seq (.block 1 (.seq (.reg [om 19 17,
 oo 20 (.iaddr 23 3 (.t 15) (.t 17)),
 oo 21 (.load 44 (some 3) (.t 20)),
 oo 8 (.alloc 44 [.own 1 0 [],.lit (.bool false),.own 1 0 []]),
 oo 7 (.asg (.t 19)),
 ov (.store 44 3 (.t 8) (.t 21))]) (.seq (.reg [om 22 1,
 om 23 7,
 oo 24 (.iaddr 23 3 (.t 22) (.t 23)),
 oo 25 (.load 44 (some 3) (.t 24)),
 oo 9 (.alloc 44 [.own 1 0 [],.lit (.bool false),.own 1 0 []]),
 ov (.store 44 3 (.t 9) (.t 25))]) (.seq (.reg [om 26 2,
 oo 27 (.load 44 (some 3) (.t 8)),
 oo 28 (.load 44 (some 3) (.t 9)),
 ⟨(some 29),.callx (.t 26) [(false,(.t 27)),(false,(.t 28))] [.p 0,.p 1] [44,44],none⟩,
 oo 30 (.un .not 4 (.t 29))]) (.cond (.t 30) (.seq (.reg [oo 6 (.asg (.c (.bool false)))]) .ret) .skip))))) (.reg [oo 31 (.bin .add 3 0 (.t 17) (.n 1) 3),
 om 17 31]))))
def a1t:IC:=(.seq (.reg [oo 6 (.asg (.c (.bool false)))]) (.seq (.seq (.reg [om 10 0,
 oo 11 (.len 23 false (.t 10)),
 om 12 1,
 oo 13 (.len 23 false (.t 12)),
 oo 14 (.bin .neq 3 0 (.t 11) (.t 13) 3)]) (.cond (.t 14) (.seq (.reg [oo 6 (.asg (.c (.bool false)))]) .ret) .skip)) (.seq (.seq (.reg [om 15 0,
 oo 16 (.len 23 false (.t 15)),
 oo 17 (.mv (.n 0))]) (.block 0 (.loop a1m))) (.seq (.reg [oo 6 (.asg (.c (.bool true)))]) .ret))))
abbrev a5p:Nat:=32
@[go_sem] theorem b1h:fnB pg 32=true:=by kernel_rfl
theorem a4e:fnX pg 32 32 [(.tmp 6)] [(.tmp 6)] a1t:=a6v Go.Proofs.Tryd.f32 (by kernel_rfl)
def b1m:IC:=(.seq (.reg [oo 2 (.box 44 3 (.t 0)),
 oo 3 (.box 44 3 (.t 1)),
 oo 4 (.asg (.c (.bool false)))]) (.seq (.reg [oo 5 (.faddr 44 0 (.t 2) 0),
 oo 6 (.load 39 (some 2) (.t 5)),
 oo 7 (.faddr 44 0 (.t 3) 0),
 oo 8 (.load 39 (some 2) (.t 7)),
 oc 9 30 [(false,(.t 6)),(false,(.t 8))] [39,39],
 om 10 9,
 og 11 (.faddr 44 2 (.t 2) 1) 5 10 true,
 og 12 (.load 34 none (.t 11)) 5 10 true,
 og 13 (.faddr 44 2 (.t 3) 1) 5 10 true,
 og 14 (.load 34 none (.t 13)) 5 10 true,
 ⟨(some 15),.call 58 [(false,(.t 12)),(false,(.t 14))] [34,34],(some (5,10,true))⟩,
 oo 16 (.pick (.t 10) (.t 15) (.c (.bool false))),
 oo 4 (.asg (.t 16))]) .ret))
abbrev b59:Nat:=33
theorem b2c:fnC pg 33 17 [(.tmp 4)] b1m:=a1g Go.Proofs.Tryd.f33 [(.tmp 4)] (by kernel_rfl)
@[go_sem] theorem b34:fnB pg 33=true:=by kernel_rfl
def a1v:IC:=(.seq (.reg [oo 18 (.bin .lss 3 0 (.t 17) (.t 16) 3)]) (.seq (.cond (.t 18) .skip (.exit 0)) (.seq (.block 1 (.seq (.reg [om 19 17,
 oo 20 (.iaddr 24 2 (.t 15) (.t 17)),
 oo 21 (.load 39 (some 2) (.t 20)),
 oo 8 (.alloc 39 [.own 1 0 [],.lit (.bool false)]),
 oo 7 (.asg (.t 19)),
 ov (.store 39 2 (.t 8) (.t 21))]) (.seq (.reg [om 22 1,
 om 23 7,
 oo 24 (.iaddr 24 2 (.t 22) (.t 23)),
 oo 25 (.load 39 (some 2) (.t 24)),
 oo 9 (.alloc 39 [.own 1 0 [],.lit (.bool false)]),
 ov (.store 39 2 (.t 9) (.t 25))]) (.seq (.reg [om 26 2,
 oo 27 (.load 39 (some 2) (.t 8)),
 oo 28 (.load 39 (some 2) (.t 9)),
 ⟨(some 29),.callx (.t 26) [(false,(.t 27)),(false,(.t 28))] [.p 0,.p 1] [39,39],none⟩,
 oo 30 (.un .not 4 (.t 29))]) (.cond (.t 30) (.seq (.reg [oo 6 (.asg (.c (.bool false)))]) .ret) .skip))))) (.reg [oo 31 (.bin .add 3 0 (.t 17) (.n 1) 3),
 om 17 31]))))
def a12:IC:=(.seq (.reg [oo 6 (.asg (.c (.bool false)))]) (.seq (.seq (.reg [om 10 0,
 oo 11 (.len 24 false (.t 10)),
 om 12 1,
 oo 13 (.len 24 false (.t 12)),
 oo 14 (.bin .neq 3 0 (.t 11) (.t 13) 3)]) (.cond (.t 14) (.seq (.reg [oo 6 (.asg (.c (.bool false)))]) .ret) .skip)) (.seq (.seq (.reg [om 15 0,
 oo 16 (.len 24 false (.t 15)),
 oo 17 (.mv (.n 0))]) (.block 0 (.loop a1v))) (.seq (.reg [oo 6 (.asg (.c (.bool true)))]) .ret))))
abbrev a59:Nat:=34
@[go_sem] theorem b19:fnB pg 34=true:=by kernel_rfl
theorem a48:fnX pg 34 32 [(.tmp 6)] [(.tmp 6)] a12:=a6v Go.Proofs.Tryd.f34 (by kernel_rfl)
def a1s:IC:=(.seq (.reg [oo 18 (.bin .lss 3 0 (.t 17) (.t 16) 3)]) (.seq (.cond (.t 18) .skip (.exit 0)) (.seq (.block 1 (.seq (.reg [om 19 17,
 oo 20 (.iaddr 25 6 (.t 15) (.t 17)),
 oo 21 (.load 36 (some 6) (.t 20)),
 oo 8 (.alloc 36 [.lit (.int .i64 0),.lit (.int .i64 0),.own 1 0 [],.own 1 0 [],.lit (.int .i64 0),.lit (.int .i64 0)]),
 oo 7 (.asg (.t 19)),
 ov (.store 36 6 (.t 8) (.t 21))]) (.seq (.reg [om 22 1,
 om 23 7,
 oo 24 (.iaddr 25 6 (.t 22) (.t 23)),
 oo 25 (.load 36 (some 6) (.t 24)),
 oo 9 (.alloc 36 [.lit (.int .i64 0),.lit (.int .i64 0),.own 1 0 [],.own 1 0 [],.lit (.int .i64 0),.lit (.int .i64 0)]),
 ov (.store 36 6 (.t 9) (.t 25))]) (.seq (.reg [om 26 2,
 oo 27 (.load 36 (some 6) (.t 8)),
 oo 28 (.load 36 (some 6) (.t 9)),
 ⟨(some 29),.callx (.t 26) [(false,(.t 27)),(false,(.t 28))] [.p 0,.p 1] [36,36],none⟩,
 oo 30 (.un .not 4 (.t 29))]) (.cond (.t 30) (.seq (.reg [oo 6 (.asg (.c (.bool false)))]) .ret) .skip))))) (.reg [oo 31 (.bin .add 3 0 (.t 17) (.n 1) 3),
 om 17 31]))))
def a1w:IC:=(.seq (.reg [oo 6 (.asg (.c (.bool false)))]) (.seq (.seq (.reg [om 10 0,
 oo 11 (.len 25 false (.t 10)),
 om 12 1,
 oo 13 (.len 25 false (.t 12)),
 oo 14 (.bin .neq 3 0 (.t 11) (.t 13) 3)]) (.cond (.t 14) (.seq (.reg [oo 6 (.asg (.c (.bool false)))]) .ret) .skip)) (.seq (.seq (.reg [om 15 0,
 oo 16 (.len 25 false (.t 15)),
 oo 17 (.mv (.n 0))]) (.block 0 (.loop a1s))) (.seq (.reg [oo 6 (.asg (.c (.bool true)))]) .ret))))
abbrev a5u:Nat:=35
@[go_sem] theorem b1v:fnB pg 35=true:=by kernel_rfl
theorem a4r:fnX pg 35 32 [(.tmp 6)] [(.tmp 6)] a1w:=a6v Go.Proofs.Tryd.f35 (by kernel_rfl)
def a20:IC:=(.seq (.reg [oo 2 (.box 36 6 (.t 0)),
 oo 3 (.box 36 6 (.t 1)),
 oo 4 (.asg (.c (.bool false)))]) (.seq (.reg [oo 5 (.faddr 36 0 (.t 2) 0),
 oo 6 (.load 3 none (.t 5)),
 oo 7 (.faddr 36 0 (.t 3) 0),
 oo 8 (.load 3 none (.t 7)),
 oo 9 (.bin .eql 3 0 (.t 6) (.t 8) 3),
 om 10 9,
 og 11 (.faddr 36 1 (.t 2) 1) 5 10 true,
 og 12 (.load 3 none (.t 11)) 5 10 true,
 og 13 (.faddr 36 1 (.t 3) 1) 5 10 true,
 og 14 (.load 3 none (.t 13)) 5 10 true,
 og 15 (.bin .eql 3 0 (.t 12) (.t 14) 3) 5 10 true,
 oo 16 (.pick (.t 10) (.t 15) (.c (.bool false))),
 om 17 16,
 og 18 (.faddr 36 2 (.t 2) 2) 12 17 true,
 og 19 (.load 34 none (.t 18)) 12 17 true,
 og 20 (.faddr 36 2 (.t 3) 2) 12 17 true,
 og 21 (.load 34 none (.t 20)) 12 17 true,
 ⟨(some 22),.call 58 [(false,(.t 19)),(false,(.t 21))] [34,34],(some (12,17,true))⟩,
 oo 23 (.pick (.t 17) (.t 22) (.c (.bool false))),
 om 24 23,
 og 25 (.faddr 36 3 (.t 2) 3) 19 24 true,
 og 26 (.load 34 none (.t 25)) 19 24 true,
 og 27 (.faddr 36 3 (.t 3) 3) 19 24 true,
 og 28 (.load 34 none (.t 27)) 19 24 true,
 ⟨(some 29),.call 58 [(false,(.t 26)),(false,(.t 28))] [34,34],(some (19,24,true))⟩,
 oo 30 (.pick (.t 24) (.t 29) (.c (.bool false))),
 om 31 30,
 og 32 (.faddr 36 4 (.t 2) 4) 26 31 true,
 og 33 (.load 3 none (.t 32)) 26 31 true,
 og 34 (.faddr 36 4 (.t 3) 4) 26 31 true,
 og 35 (.load 3 none (.t 34)) 26 31 true,
 og 36 (.bin .eql 3 0 (.t 33) (.t 35) 3) 26 31 true,
 oo 37 (.pick (.t 31) (.t 36) (.c (.bool false))),
 om 38 37,
 og 39 (.faddr 36 5 (.t 2) 5) 33 38 true,
 og 40 (.load 3 none (.t 39)) 33 38 true,
 og 41 (.faddr 36 5 (.t 3) 5) 33 38 true,
 og 42 (.load 3 none (.t 41)) 33 38 true,
 og 43 (.bin .eql 3 0 (.t 40) (.t 42) 3) 33 38 true,
 oo 44 (.pick (.t 38) (.t 43) (.c (.bool false))),
 oo 4 (.asg (.t 44))]) .ret))
abbrev b0a:Nat:=36
theorem a8j:fnC pg 36 45 [(.tmp 4)] a20:=a1g Go.Proofs.Tryd.f36 [(.tmp 4)] (by kernel_rfl)
@[go_sem] theorem a83:fnB pg 36=true:=by kernel_rfl
def a2g:IC:=(.seq (.seq (.reg [om 12 5,
 om 13 0,
 oo 14 (.len 22 false (.t 13)),
 oo 15 (.bin .lss 3 0 (.t 12) (.t 14) 3)]) (.cond (.t 15) .skip (.exit 0))) (.seq (.block 1 (.seq (.draw [om 18 0,
 om 19 5,
 oo 20 (.iaddr 22 3 (.t 18) (.t 19)),
 oo 21 (.load 41 (some 3) (.t 20)),
 om 22 1,
 om 23 5,
 oo 24 (.iaddr 22 3 (.t 22) (.t 23)),
 oo 25 (.load 41 (some 3) (.t 24)),
 oc 26 59 [(false,(.t 21)),(false,(.t 25))] [41,41],
 oo 6 (.asg (.t 26))] [[],[],[0,1],[2],[],[],[4,5],[6],[3,7],[8,8,0,1,2,3,4,5,6,7,8]]) (.seq (.reg [om 27 6,
 oo 28 (.un .not 4 (.t 27))]) (.cond (.t 28) (.seq (.reg [oo 4 (.asg (.c (.bool false)))]) .ret) .skip)))) (.reg [om 16 5,
 oo 17 (.bin .add 3 0 (.t 16) (.n 1) 3),
 oo 5 (.asg (.t 17))])))
def a4k:IC:=(.seq (.reg [oo 4 (.asg (.c (.bool false)))]) (.seq (.seq (.reg [om 7 0,
 oo 8 (.len 22 false (.t 7)),
 om 9 1,
 oo 10 (.len 22 false (.t 9)),
 oo 11 (.bin .neq 3 0 (.t 8) (.t 10) 3)]) (.cond (.t 11) (.seq (.reg [oo 4 (.asg (.c (.bool false)))]) .ret) .skip)) (.seq (.seq (.reg [oo 5 (.asg (.n 0))]) (.block 0 (.loop a2g))) (.seq (.reg [oo 4 (.asg (.c (.bool true)))]) .ret))))
abbrev a7u:Nat:=37
theorem a6g:fnC pg 37 29 [(.tmp 4)] a4k:=a1g Go.Proofs.Tryd.f37 [(.tmp 4)] (by kernel_rfl)
@[go_sem] theorem b4b:fnB pg 37=true:=by kernel_rfl
def a11:IC:=(.seq (.seq (.reg [om 12 5,
 om 13 0,
 oo 14 (.len 23 false (.t 13)),
 oo 15 (.bin .lss 3 0 (.t 12) (.t 14) 3)]) (.cond (.t 15) .skip (.exit 0))) (.seq (.block 1 (.seq (.draw [om 18 0,
 om 19 5,
 oo 20 (.iaddr 23 3 (.t 18) (.t 19)),
 oo 21 (.load 44 (some 3) (.t 20)),
 om 22 1,
 om 23 5,
 oo 24 (.iaddr 23 3 (.t 22) (.t 23)),
 oo 25 (.load 44 (some 3) (.t 24)),
 oc 26 60 [(false,(.t 21)),(false,(.t 25))] [44,44],
 oo 6 (.asg (.t 26))] [[],[],[0,1],[2],[],[],[4,5],[6],[3,7],[8,8,0,1,2,3,4,5,6,7,8]]) (.seq (.reg [om 27 6,
 oo 28 (.un .not 4 (.t 27))]) (.cond (.t 28) (.seq (.reg [oo 4 (.asg (.c (.bool false)))]) .ret) .skip)))) (.reg [om 16 5,
 oo 17 (.bin .add 3 0 (.t 16) (.n 1) 3),
 oo 5 (.asg (.t 17))])))
def a3n:IC:=(.seq (.reg [oo 4 (.asg (.c (.bool false)))]) (.seq (.seq (.reg [om 7 0,
 oo 8 (.len 23 false (.t 7)),
 om 9 1,
 oo 10 (.len 23 false (.t 9)),
 oo 11 (.bin .neq 3 0 (.t 8) (.t 10) 3)]) (.cond (.t 11) (.seq (.reg [oo 4 (.asg (.c (.bool false)))]) .ret) .skip)) (.seq (.seq (.reg [oo 5 (.asg (.n 0))]) (.block 0 (.loop a11))) (.seq (.reg [oo 4 (.asg (.c (.bool true)))]) .ret))))
abbrev a6w:Nat:=38
theorem a5q:fnC pg 38 29 [(.tmp 4)] a3n:=a1g Go.Proofs.Tryd.f38 [(.tmp 4)] (by kernel_rfl)
@[go_sem] theorem b2q:fnB pg 38=true:=by kernel_rfl
def a2f:IC:=(.seq (.seq (.reg [om 12 5,
 om 13 0,
 oo 14 (.len 24 false (.t 13)),
 oo 15 (.bin .lss 3 0 (.t 12) (.t 14) 3)]) (.cond (.t 15) .skip (.exit 0))) (.seq (.block 1 (.seq (.draw [om 18 0,
 om 19 5,
 oo 20 (.iaddr 24 2 (.t 18) (.t 19)),
 oo 21 (.load 39 (some 2) (.t 20)),
 om 22 1,
 om 23 5,
 oo 24 (.iaddr 24 2 (.t 22) (.t 23)),
 oo 25 (.load 39 (some 2) (.t 24)),
 oc 26 18 [(false,(.t 21)),(false,(.t 25))] [39,39],
 oo 6 (.asg (.t 26))] [[],[],[0,1],[2],[],[],[4,5],[6],[3,7],[8,8,0,1,2,3,4,5,6,7,8]]) (.seq (.reg [om 27 6,
 oo 28 (.un .not 4 (.t 27))]) (.cond (.t 28) (.seq (.reg [oo 4 (.asg (.c (.bool false)))]) .ret) .skip)))) (.reg [om 16 5,
 oo 17 (.bin .add 3 0 (.t 16) (.n 1) 3),
 oo 5 (.asg (.t 17))])))
def a4i:IC:=(.seq (.reg [oo 4 (.asg (.c (.bool false)))]) (.seq (.seq (.reg [om 7 0,
 oo 8 (.len 24 false (.t 7)),
 om 9 1,
 oo 10 (.len 24 false (.t 9)),
 oo 11 (.bin .neq 3 0 (.t 8) (.t 10) 3)]) (.cond (.t 11) (.seq (.reg [oo 4 (.asg (.c (.bool false)))]) .ret) .skip)) (.seq (.seq (.reg [oo 5 (.asg (.n 0))]) (.block 0 (.loop a2f))) (.seq (.reg [oo 4 (.asg (.c (.bool true)))]) .ret))))
abbrev a7t:Nat:=39
theorem a6e:fnC pg 39 29 [(.tmp 4)] a4i:=a1g Go.Proofs.Tryd.f39 [(.tmp 4)] (by kernel_rfl)
@[go_sem] theorem b39:fnB pg 39=true:=by kernel_rfl
def a19:IC:=(.seq (.seq (.reg [om 12 5,
 om 13 0,
 oo 14 (.len 25 false (.t 13)),
 oo 15 (.bin .lss 3 0 (.t 12) (.t 14) 3)]) (.cond (.t 15) .skip (.exit 0))) (.seq (.block 1 (.seq (.draw [om 18 0,
 om 19 5,
 oo 20 (.iaddr 25 6 (.t 18) (.t 19)),
 oo 21 (.load 36 (some 6) (.t 20)),
 om 22 1,
 om 23 5,
 oo 24 (.iaddr 25 6 (.t 22) (.t 23)),
 oo 25 (.load 36 (some 6) (.t 24)),
 oc 26 61 [(false,(.t 21)),(false,(.t 25))] [36,36],
 oo 6 (.asg (.t 26))] [[],[],[0,1],[2],[],[],[4,5],[6],[3,7],[8,8,0,1,2,3,4,5,6,7,8]]) (.seq (.reg [om 27 6,
 oo 28 (.un .not 4 (.t 27))]) (.cond (.t 28) (.seq (.reg [oo 4 (.asg (.c (.bool false)))]) .ret) .skip)))) (.reg [om 16 5,
 oo 17 (.bin .add 3 0 (.t 16) (.n 1) 3),
 oo 5 (.asg (.t 17))])))
def a34:IC:=(.seq (.reg [oo 4 (.asg (.c (.bool false)))]) (.seq (.seq (.reg [om 7 0,
 oo 8 (.len 25 false (.t 7)),
 om 9 1,
 oo 10 (.len 25 false (.t 9)),
 oo 11 (.bin .neq 3 0 (.t 8) (.t 10) 3)]) (.cond (.t 11) (.seq (.reg [oo 4 (.asg (.c (.bool false)))]) .ret) .skip)) (.seq (.seq (.reg [oo 5 (.asg (.n 0))]) (.block 0 (.loop a19))) (.seq (.reg [oo 4 (.asg (.c (.bool true)))]) .ret))))
abbrev a64:Nat:=40
theorem a50:fnC pg 40 29 [(.tmp 4)] a34:=a1g Go.Proofs.Tryd.f40 [(.tmp 4)] (by kernel_rfl)
@[go_sem] theorem b3q:fnB pg 40=true:=by kernel_rfl
def a25:IC:=(.seq (.reg [oo 14 (.bin .lss 3 0 (.t 13) (.t 12) 3)]) (.seq (.cond (.t 14) .skip (.exit 0)) (.seq (.block 1 (.seq (.reg [om 15 13,
 oo 5 (.asg (.t 15))]) (.seq (.draw [om 16 0,
 om 17 5,
 oo 18 (.iaddr 34 1 (.t 16) (.t 17)),
 oo 19 (.load 3 none (.t 18)),
 om 20 1,
 om 21 5,
 oo 22 (.iaddr 34 1 (.t 20) (.t 21)),
 oo 23 (.load 3 none (.t 22)),
 oo 24 (.bin .neq 3 0 (.t 19) (.t 23) 3)] [[],[],[0,1],[2],[],[],[4,5],[6],[3,7]]) (.cond (.t 24) (.seq (.reg [oo 4 (.asg (.c (.bool false)))]) .ret) .skip)))) (.reg [oo 25 (.bin .add 3 0 (.t 13) (.n 1) 3),
 om 13 25]))))
def a3i:IC:=(.seq (.reg [oo 4 (.asg (.c (.bool false)))]) (.seq (.seq (.reg [om 6 0,
 oo 7 (.len 34 false (.t 6)),
 om 8 1,
 oo 9 (.len 34 false (.t 8)),
 oo 10 (.bin .neq 3 0 (.t 7) (.t 9) 3)]) (.cond (.t 10) (.seq (.reg [oo 4 (.asg (.c (.bool false)))]) .ret) .skip)) (.seq (.seq (.reg [om 11 0,
 oo 12 (.len 34 false (.t 11)),
 oo 13 (.mv (.n 0))]) (.block 0 (.loop a25))) (.seq (.reg [oo 4 (.asg (.c (.bool true)))]) .ret))))
abbrev a8p:Nat:=58
theorem a7m:fnC pg 58 26 [(.tmp 4)] a3i:=a1g Go.Proofs.Tryd.f58 [(.tmp 4)] (by kernel_rfl)
@[go_sem] theorem b55:fnB pg 58=true:=by kernel_rfl
def a41:IC:=(.seq (.reg [oo 2 (.box 41 3 (.t 0)),
 oo 3 (.box 41 3 (.t 1)),
 oo 4 (.asg (.c (.bool false)))]) (.seq (.reg [oo 6 (.faddr 41 1 (.t 2) 1),
 oo 7 (.load 39 (some 2) (.t 6)),
 oo 8 (.faddr 41 1 (.t 3) 1),
 oo 9 (.load 39 (some 2) (.t 8)),
 oc 10 18 [(false,(.t 7)),(false,(.t 9))] [39,39],
 oo 5 (.asg (.t 10))]) (.seq (.reg [om 11 5,
 om 12 11,
 og 13 (.faddr 41 0 (.t 2) 0) 1 12 true,
 og 14 (.load 3 none (.t 13)) 1 12 true,
 og 15 (.faddr 41 0 (.t 3) 0) 1 12 true,
 og 16 (.load 3 none (.t 15)) 1 12 true,
 og 17 (.bin .eql 3 0 (.t 14) (.t 16) 3) 1 12 true,
 oo 18 (.pick (.t 12) (.t 17) (.c (.bool false))),
 oo 4 (.asg (.t 18))]) .ret)))
abbrev a77:Nat:=59
theorem a61:fnC pg 59 19 [(.tmp 4)] a41:=a1g Go.Proofs.Tryd.f59 [(.tmp 4)] (by kernel_rfl)
@[go_sem] theorem b5b:fnB pg 59=true:=by kernel_rfl
def a4j:IC:=(.seq (.reg [oo 2 (.box 36 6 (.t 0)),
 oo 3 (.box 36 6 (.t 1)),
 oo 4 (.asg (.c (.bool false)))]) (.seq (.reg [oo 7 (.faddr 36 2 (.t 2) 2),
 oo 8 (.load 34 none (.t 7)),
 oo 9 (.faddr 36 2 (.t 3) 2),
 oo 10 (.load 34 none (.t 9)),
 oc 11 19 [(false,(.t 8)),(false,(.t 10))] [34,34],
 oo 5 (.asg (.t 11))]) (.seq (.reg [oo 12 (.faddr 36 3 (.t 2) 3),
 oo 13 (.load 34 none (.t 12)),
 oo 14 (.faddr 36 3 (.t 3) 3),
 oo 15 (.load 34 none (.t 14)),
 oc 16 19 [(false,(.t 13)),(false,(.t 15))] [34,34],
 oo 6 (.asg (.t 16))]) (.seq (.reg [om 17 5,
 om 18 17,
 og 19 (.mv (.t 6)) 1 18 true,
 oo 20 (.pick (.t 18) (.t 19) (.c (.bool false))),
 om 21 20,
 og 22 (.faddr 36 0 (.t 2) 0) 4 21 true,
 og 23 (.load 3 none (.t 22)) 4 21 true,
 og 24 (.faddr 36 0 (.t 3) 0) 4 21 true,
 og 25 (.load 3 none (.t 24)) 4 21 true,
 og 26 (.bin .eql 3 0 (.t 23) (.t 25) 3) 4 21 true,
 oo 27 (.pick (.t 21) (.t 26) (.c (.bool false))),
 om 28 27,
 og 29 (.faddr 36 1 (.t 2) 1) 11 28 true,
 og 30 (.load 3 none (.t 29)) 11 28 true,
 og 31 (.faddr 36 1 (.t 3) 1) 11 28 true,
 og 32 (.load 3 none (.t 31)) 11 28 true,
 og 33 (.bin .eql 3 0 (.t 30) (.t 32) 3) 11 28 true,
 oo 34 (.pick (.t 28) (.t 33) (.c (.bool false))),
 om 35 34,
 og 36 (.faddr 36 4 (.t 2) 4) 18 35 true,
 og 37 (.load 3 none (.t 36)) 18 35 true,
 og 38 (.faddr 36 4 (.t 3) 4) 18 35 true,
 og 39 (.load 3 none (.t 38)) 18 35 true,
 og 40 (.bin .eql 3 0 (.t 37) (.t 39) 3) 18 35 true,
 oo 41 (.pick (.t 35) (.t 40) (.c (.bool false))),
 om 42 41,
 og 43 (.faddr 36 5 (.t 2) 5) 25 42 true,
 og 44 (.load 3 none (.t 43)) 25 42 true,
 og 45 (.faddr 36 5 (.t 3) 5) 25 42 true,
 og 46 (.load 3 none (.t 45)) 25 42 true,
 og 47 (.bin .eql 3 0 (.t 44) (.t 46) 3) 25 42 true,
 oo 48 (.pick (.t 42) (.t 47) (.c (.bool false))),
 oo 4 (.asg (.t 48))]) .ret))))
abbrev a4g:Nat:=61
theorem a6f:fnC pg 61 49 [(.tmp 4)] a4j:=a1g Go.Proofs.Tryd.f61 [(.tmp 4)] (by kernel_rfl)
@[go_sem] theorem b4a:fnB pg 61=true:=by kernel_rfl
structure Ds where
 shape:List Int
 wide:Bool
 deriving DecidableEq
structure Tn where
 shape:List Int
 wide:Bool
 data:List Int
 deriving DecidableEq
structure Vw where
 off:Int
 shape:List Int
 wide:Bool
 deriving DecidableEq
structure In where
 op:Int
 dst:Int
 ins:List Int
 args:List Int
 frm:Int
 to:Int
 deriving DecidableEq
structure Pl where
 size:Int
 views:List Vw
 consts:List Tn
 weights:List Ds
 code:List In
 input:Int
 output:Int
 deriving DecidableEq
def eD (d:Ds):List AV:=[slI d.shape,lb d.wide]
def eT (d:Tn):List AV:=[slI d.shape,lb d.wide,slI d.data]
def eV (d:Vw):List AV:=[li d.off,slI d.shape,lb d.wide]
def eI (d:In):List AV:=[li d.op,li d.dst,slI d.ins,slI d.args,li d.frm,li d.to]
def oD (d:Ds):List AV:=[owI d.shape,lb d.wide]
def oT (d:Tn):List AV:=[owI d.shape,lb d.wide,owI d.data]
def oV (d:Vw):List AV:=[li d.off,owI d.shape,lb d.wide]
def oI (d:In):List AV:=[li d.op,li d.dst,owI d.ins,owI d.args,li d.frm,li d.to]
@[go_sem] theorem e9m {xs:List Ds}:(fm eD xs).length=xs.length*2:=a4x fun _=>rfl
@[go_sem] theorem e9l {xs:List Ds} {i:Nat} (h:i < xs.length):((fm eD xs).drop (i*2)).take 2=[slI xs[i].shape,lb xs[i].wide]:=b0q (f:=eD) (k:=2) (fun _=>rfl) h
@[go_sem] theorem e3i {xs:List Ds}:(fm eD xs).take (xs.length*2)=fm eD xs:=a2o fun _=>rfl
@[go_sem] theorem d8q {xs:List Ds}:a0k (fm eD xs)=true:=a8v fun _=>rfl
@[go_sem] theorem e9k {xs:List Ds}:a1b (fm eD xs)=fm eD xs:=by
 rw [a67]; congr 1
@[go_sem] theorem f1c {xs:List Ds}:(fm oD xs).length=xs.length*2:=a4x fun _=>rfl
@[go_sem] theorem e6j {xs:List Ds}:(fm oD xs).take (xs.length*2)=fm oD xs:=a2o fun _=>rfl
@[go_sem] theorem f1b {xs:List Ds}:a1b (fm oD xs)=fm eD xs:=by
 rw [a67]
 congr 1
 funext n
 simp [oD,eD,go_sem]
@[go_sem] theorem e0v {xs:List Ds}:a01 (fm oD xs)=true:=a8u fun n=>by simp [oD,go_sem]
@[go_sem] theorem e9s {xs:List Tn}:(fm eT xs).length=xs.length*3:=a4x fun _=>rfl
@[go_sem] theorem e9r {xs:List Tn} {i:Nat} (h:i < xs.length):((fm eT xs).drop (i*3)).take 3=[slI xs[i].shape,lb xs[i].wide,slI xs[i].data]:=b0q (f:=eT) (k:=3) (fun _=>rfl) h
@[go_sem] theorem e3l {xs:List Tn}:(fm eT xs).take (xs.length*3)=fm eT xs:=a2o fun _=>rfl
@[go_sem] theorem d8u {xs:List Tn}:a0k (fm eT xs)=true:=a8v fun _=>rfl
@[go_sem] theorem e9q {xs:List Tn}:a1b (fm eT xs)=fm eT xs:=by
 rw [a67]; congr 1
@[go_sem] theorem f1g {xs:List Tn}:(fm oT xs).length=xs.length*3:=a4x fun _=>rfl
@[go_sem] theorem e6n {xs:List Tn}:(fm oT xs).take (xs.length*3)=fm oT xs:=a2o fun _=>rfl
@[go_sem] theorem f1f {xs:List Tn}:a1b (fm oT xs)=fm eT xs:=by
 rw [a67]
 congr 1
 funext n
 simp [oT,eT,go_sem]
@[go_sem] theorem e0y {xs:List Tn}:a01 (fm oT xs)=true:=a8u fun n=>by simp [oT,go_sem]
@[go_sem] theorem e9u {xs:List Vw}:(fm eV xs).length=xs.length*3:=a4x fun _=>rfl
@[go_sem] theorem d15 {xs:List Vw} {i:Nat} (h:i < xs.length):((fm eV xs).drop (i*3)).take 3=[li xs[i].off,slI xs[i].shape,lb xs[i].wide]:=b0q (f:=eV) (k:=3) (fun _=>rfl) h
@[go_sem] theorem e3n {xs:List Vw}:(fm eV xs).take (xs.length*3)=fm eV xs:=a2o fun _=>rfl
@[go_sem] theorem d8v {xs:List Vw}:a0k (fm eV xs)=true:=a8v fun _=>rfl
@[go_sem] theorem e9t {xs:List Vw}:a1b (fm eV xs)=fm eV xs:=by
 rw [a67]; congr 1
@[go_sem] theorem f1i {xs:List Vw}:(fm oV xs).length=xs.length*3:=a4x fun _=>rfl
@[go_sem] theorem e6o {xs:List Vw}:(fm oV xs).take (xs.length*3)=fm oV xs:=a2o fun _=>rfl
@[go_sem] theorem f1h {xs:List Vw}:a1b (fm oV xs)=fm eV xs:=by
 rw [a67]
 congr 1
 funext n
 simp [oV,eV,go_sem]
@[go_sem] theorem e0z {xs:List Vw}:a01 (fm oV xs)=true:=a8u fun n=>by simp [oV,go_sem]
@[go_sem] theorem e9p {xs:List In}:(fm eI xs).length=xs.length*6:=a4x fun _=>rfl
@[go_sem] theorem e9o {xs:List In} {i:Nat} (h:i < xs.length):((fm eI xs).drop (i*6)).take 6=[li xs[i].op,li xs[i].dst,slI xs[i].ins,slI xs[i].args,li xs[i].frm,li xs[i].to]:=b0q (f:=eI) (k:=6) (fun _=>rfl) h
@[go_sem] theorem e3j {xs:List In}:(fm eI xs).take (xs.length*6)=fm eI xs:=a2o fun _=>rfl
@[go_sem] theorem d8r {xs:List In}:a0k (fm eI xs)=true:=a8v fun _=>rfl
@[go_sem] theorem e9n {xs:List In}:a1b (fm eI xs)=fm eI xs:=by
 rw [a67]; congr 1
@[go_sem] theorem f1e {xs:List In}:(fm oI xs).length=xs.length*6:=a4x fun _=>rfl
@[go_sem] theorem e6k {xs:List In}:(fm oI xs).take (xs.length*6)=fm oI xs:=a2o fun _=>rfl
@[go_sem] theorem f1d {xs:List In}:a1b (fm oI xs)=fm eI xs:=by
 rw [a67]
 congr 1
 funext n
 simp [oI,eI,go_sem]
@[go_sem] theorem e0w {xs:List In}:a01 (fm oI xs)=true:=a8u fun n=>by simp [oI,go_sem]
abbrev slD (xs:List Ds):AV:= .sl xs.length (fm eD xs)
abbrev slT (xs:List Tn):AV:= .sl xs.length (fm eT xs)
abbrev slV (xs:List Vw):AV:= .sl xs.length (fm eV xs)
abbrev slJ (xs:List In):AV:= .sl xs.length (fm eI xs)
abbrev owD (xs:List Ds):AV:= .own 2 xs.length (fm oD xs)
abbrev owT (xs:List Tn):AV:= .own 3 xs.length (fm oT xs)
abbrev owV (xs:List Vw):AV:= .own 3 xs.length (fm oV xs)
abbrev owJ (xs:List In):AV:= .own 6 xs.length (fm oI xs)
def eP (p:Pl):List AV:=[li p.size,slV p.views,slT p.consts,slD p.weights,slJ p.code,li p.input,li p.output]
def oP (p:Pl):List AV:=[li p.size,owV p.views,owT p.consts,owD p.weights,owJ p.code,li p.input,li p.output]
section
variable {G:GG} {bk:Nat->Nat×Nat} {Q:Exit->St->Prop} {st:St}
theorem b3b (xs:List Int) (h:xs.length < 2 ^ 40):ACalls pg G a8o [slI xs] (owI xs):=by
 refine a7l rfl ?_
 simp (disch:=omega) [go_sem,a5n]
 refine e6i fun b hb=> ?_
 cases b with
 | true=>
  have:xs=[]:=by simpa using hb rfl
  subst this
  simp (disch:=omega) [go_sem]
 | false=>simp (disch:=omega) [go_sem]
theorem b3a (sh:List Int) (w:Bool) (hlen:sh.length < 2 ^ 40):ACalls pg G b23 [.agg [slI sh,lb w]] (.agg [owI sh,lb w]):=by
 refine b0f rfl ?_
 simp (disch:=omega) [go_sem,a9d]
 refine a3e ?_
 simp (disch:=omega) [go_sem]
 refine a1o (b3b sh hlen) rfl (a8y _) (by simp) [5] (by simp) (by simp (disch:=omega) [go_sem]) ?_
 simp (disch:=omega) [go_sem]
 refine a5h (by decide) fun s2 hs he=> ?_
 simp (disch:=omega) [go_sem,hs]
theorem c19 (sh:List Int) (w:Bool) (data:List Int) (hlen:sh.length < 2 ^ 40) (hl:data.length < 2 ^ 40):ACalls pg G b4j [e2c sh w data] (.agg [owI sh,lb w,owI data]):=by
 refine b1l rfl ?_
 simp (disch:=omega) [go_sem,a98]
 refine a3e ?_
 simp (disch:=omega) [go_sem]
 refine a1o (b3a sh w hlen) rfl (by simp [a0v,a01,a7d]) (by simp) [5] (by simp) (by simp (disch:=omega) [go_sem]) ?_
 simp (disch:=omega) [go_sem]
 refine a1o (b3b data hl) rfl (a8y _) (by simp) [8] (by simp) (by simp (disch:=omega) [go_sem]) ?_
 simp (disch:=omega) [go_sem]
 refine a5h (by decide) fun s2 hs he=> ?_
 simp (disch:=omega) [go_sem,hs]
end
def eqP {α:Type} (p:α->α->Bool):List α->List α->Bool
 | [],[]=>true
 | x::xs,y::ys=>p x y&&eqP p xs ys
 | _,_=>false
theorem b0o {α:Type} {p:α->α->Bool}:∀ {a b:List α},a.length≠b.length->eqP p a b=false
 | [],[],h=>absurd rfl h
 | [],_::_,_=>rfl
 | _::_,[],_=>rfl
 | x::xs,y::ys,h=>by rw [eqP,b0o (by simpa using h),Bool.and_false]
theorem c0e {α:Type} [DecidableEq α] {p:α->α->Bool}:∀ {a b:List α},(∀ x∈a,∀ y∈b,p x y=decide (x=y))->eqP p a b=decide (a=b)
 | [],[],h=>by simp [eqP]
 | [],_::_,_=>by simp [eqP]
 | _::_,[],_=>by simp [eqP]
 | x::xs,y::ys,h=>by
  rw [eqP,h x (by simp) y (by simp),c0e fun a ha b hb=>h a (by simp [ha]) b (by simp [hb])]
  by_cases h1:x=y<;>by_cases h2:xs=ys<;>simp [h1,h2]
theorem a8t {α:Type} {p:α->α->Bool} {a b:List α} {i:Nat} (h:i < a.length) (h2:i < b.length):eqP p (a.drop i) (b.drop i)=(p a[i] b[i]&&eqP p (a.drop (i+1)) (b.drop (i+1))):=by
 rw [List.drop_eq_getElem_cons h,List.drop_eq_getElem_cons h2]; rfl
section
variable {G:GG} {bk:Nat->Nat×Nat} {Q:Exit->St->Prop} {st:St}
theorem b0h (a b:List Int) (ha:a.length < 2 ^ 62) (hb:b.length < 2 ^ 62):ACalls pg G a8p [slI a,slI b] (lb (decide (a=b))):=by
 refine a7m rfl ?_
 by_cases hl:a.length=b.length
 ·have hl':(a.length:Int)=b.length:=by omega
  simp (disch:=omega) [go_sem,a3i,hl']
  refine a03 Nat (fun i st=>i<=a.length/\eqP (fun x y=>decide (x=y)) (a.drop i) (b.drop i)=decide (a=b)/\st.s 0=slI a/\st.s 1=slI b/\st.s 11=slI a/\st.s 12=li a.length/\st.s 13=li i) (fun i=>a.length - i) 0 ⟨by simp,c0e fun _ _ _ _=>rfl,by simp (disch:=omega) [go_sem,hl']⟩ ?_
  rintro i st K ⟨hi,hm,h⟩ hK
  by_cases hlt:i < a.length
  ·have hlt2:i < b.length:=by omega
   rw [a8t hlt hlt2] at hm
   simp (disch:=omega) [go_sem,a25,h,hlt]
   refine a3e ?_
   simp (disch:=omega) [go_sem,h,hlt]
   refine a5h (by decide) fun s2 hs he=> ?_
   by_cases k:a[i]=b[i]
   ·rw [decide_eq_true k,Bool.true_and] at hm
    simp (disch:=omega) [go_sem,hs,h,k]
    exact hK (i+1) _ ⟨by omega,hm,by simp (disch:=omega) [go_sem,hs,h]⟩ (by omega)
   ·rw [decide_eq_false k,Bool.false_and] at hm
    simp (disch:=omega) [go_sem,hs,h,k,<-hm]
  ·obtain rfl:i=a.length:=by omega
   rw [List.drop_length,hl,List.drop_length,eqP] at hm
   simp (disch:=omega) [go_sem,a25,h,<-hm]
 ·have hl':¬ (a.length:Int)=b.length:=by omega
  have hn:a≠b:=fun h=>hl (by rw [h])
  simp (disch:=omega) [go_sem,a3i,hl',hn]
theorem e3r {f:FuncId} (hf:fnB pg f=true) {p:Vw->Vw->Bool} (a b:List Vw) (hp:∀ x∈a,∀ y∈b,ACallsX pg G f [.agg (eV x),.agg (eV y)] (lb (p x y)) []) (ha:a.length < 2 ^ 62) (hb:b.length < 2 ^ 62):ACallsX pg G a6a [slV a,slV b,.fn f [] []] (lb (eqP p a b)) []:=by
 refine a49 (pins:=[]) (by kernel_rfl) rfl rfl rfl rfl ?_
 by_cases hl:a.length=b.length
 ·have hl':(a.length:Int)=b.length:=by omega
  simp (disch:=omega) [go_sem,a13,hl']
  refine a03 Nat (fun i st=>i<=a.length/\eqP p (a.drop i) (b.drop i)=eqP p a b/\st.s 0=slV a/\st.s 1=slV b/\st.s 2= .fn f [] []/\st.s 15=slV a/\st.s 16=li a.length/\st.s 17=li i) (fun i=>a.length - i) 0 ⟨by simp,rfl,by simp (disch:=omega) [go_sem,hl']⟩ ?_
  rintro i st K ⟨hi,hm,h⟩ hK
  by_cases hlt:i < a.length
  ·have hlt2:i < b.length:=by omega
   rw [a8t hlt hlt2] at hm
   simp (disch:=omega) [go_sem,a1x,h,hlt,hlt2,hf]
   refine a04 (hp _ (List.getElem_mem hlt) _ (List.getElem_mem hlt2)) rfl rfl rfl rfl ?_
   cases k:p a[i] b[i] with
   | true=>
    rw [k,Bool.true_and] at hm
    simp (disch:=omega) [go_sem,h]
    exact hK (i+1) _ ⟨by omega,hm,by simp (disch:=omega) [go_sem,h]⟩ (by omega)
   | false=>
    rw [k,Bool.false_and] at hm
    simp (disch:=omega) [go_sem,h,<-hm]
  ·obtain rfl:i=a.length:=by omega
   rw [List.drop_length,hl,List.drop_length,eqP] at hm
   simp (disch:=omega) [go_sem,a1x,h,<-hm]
 ·have hl':¬ (a.length:Int)=b.length:=by omega
  simp (disch:=omega) [go_sem,a13,hl',b0o hl]
theorem e3s {f:FuncId} (hf:fnB pg f=true) {p:Tn->Tn->Bool} (a b:List Tn) (hp:∀ x∈a,∀ y∈b,ACallsX pg G f [.agg (eT x),.agg (eT y)] (lb (p x y)) []) (ha:a.length < 2 ^ 62) (hb:b.length < 2 ^ 62):ACallsX pg G a5p [slT a,slT b,.fn f [] []] (lb (eqP p a b)) []:=by
 refine a4e (pins:=[]) (by kernel_rfl) rfl rfl rfl rfl ?_
 by_cases hl:a.length=b.length
 ·have hl':(a.length:Int)=b.length:=by omega
  simp (disch:=omega) [go_sem,a1t,hl']
  refine a03 Nat (fun i st=>i<=a.length/\eqP p (a.drop i) (b.drop i)=eqP p a b/\st.s 0=slT a/\st.s 1=slT b/\st.s 2= .fn f [] []/\st.s 15=slT a/\st.s 16=li a.length/\st.s 17=li i) (fun i=>a.length - i) 0 ⟨by simp,rfl,by simp (disch:=omega) [go_sem,hl']⟩ ?_
  rintro i st K ⟨hi,hm,h⟩ hK
  by_cases hlt:i < a.length
  ·have hlt2:i < b.length:=by omega
   rw [a8t hlt hlt2] at hm
   simp (disch:=omega) [go_sem,a1m,h,hlt,hlt2,hf]
   refine a04 (hp _ (List.getElem_mem hlt) _ (List.getElem_mem hlt2)) rfl rfl rfl rfl ?_
   cases k:p a[i] b[i] with
   | true=>
    rw [k,Bool.true_and] at hm
    simp (disch:=omega) [go_sem,h]
    exact hK (i+1) _ ⟨by omega,hm,by simp (disch:=omega) [go_sem,h]⟩ (by omega)
   | false=>
    rw [k,Bool.false_and] at hm
    simp (disch:=omega) [go_sem,h,<-hm]
  ·obtain rfl:i=a.length:=by omega
   rw [List.drop_length,hl,List.drop_length,eqP] at hm
   simp (disch:=omega) [go_sem,a1m,h,<-hm]
 ·have hl':¬ (a.length:Int)=b.length:=by omega
  simp (disch:=omega) [go_sem,a1t,hl',b0o hl]
theorem e3t {f:FuncId} (hf:fnB pg f=true) {p:Ds->Ds->Bool} (a b:List Ds) (hp:∀ x∈a,∀ y∈b,ACallsX pg G f [.agg (eD x),.agg (eD y)] (lb (p x y)) []) (ha:a.length < 2 ^ 62) (hb:b.length < 2 ^ 62):ACallsX pg G a59 [slD a,slD b,.fn f [] []] (lb (eqP p a b)) []:=by
 refine a48 (pins:=[]) (by kernel_rfl) rfl rfl rfl rfl ?_
 by_cases hl:a.length=b.length
 ·have hl':(a.length:Int)=b.length:=by omega
  simp (disch:=omega) [go_sem,a12,hl']
  refine a03 Nat (fun i st=>i<=a.length/\eqP p (a.drop i) (b.drop i)=eqP p a b/\st.s 0=slD a/\st.s 1=slD b/\st.s 2= .fn f [] []/\st.s 15=slD a/\st.s 16=li a.length/\st.s 17=li i) (fun i=>a.length - i) 0 ⟨by simp,rfl,by simp (disch:=omega) [go_sem,hl']⟩ ?_
  rintro i st K ⟨hi,hm,h⟩ hK
  by_cases hlt:i < a.length
  ·have hlt2:i < b.length:=by omega
   rw [a8t hlt hlt2] at hm
   simp (disch:=omega) [go_sem,a1v,h,hlt,hlt2,hf]
   refine a04 (hp _ (List.getElem_mem hlt) _ (List.getElem_mem hlt2)) rfl rfl rfl rfl ?_
   cases k:p a[i] b[i] with
   | true=>
    rw [k,Bool.true_and] at hm
    simp (disch:=omega) [go_sem,h]
    exact hK (i+1) _ ⟨by omega,hm,by simp (disch:=omega) [go_sem,h]⟩ (by omega)
   | false=>
    rw [k,Bool.false_and] at hm
    simp (disch:=omega) [go_sem,h,<-hm]
  ·obtain rfl:i=a.length:=by omega
   rw [List.drop_length,hl,List.drop_length,eqP] at hm
   simp (disch:=omega) [go_sem,a1v,h,<-hm]
 ·have hl':¬ (a.length:Int)=b.length:=by omega
  simp (disch:=omega) [go_sem,a12,hl',b0o hl]
theorem e3u {f:FuncId} (hf:fnB pg f=true) {p:In->In->Bool} (a b:List In) (hp:∀ x∈a,∀ y∈b,ACallsX pg G f [.agg (eI x),.agg (eI y)] (lb (p x y)) []) (ha:a.length < 2 ^ 62) (hb:b.length < 2 ^ 62):ACallsX pg G a5u [slJ a,slJ b,.fn f [] []] (lb (eqP p a b)) []:=by
 refine a4r (pins:=[]) (by kernel_rfl) rfl rfl rfl rfl ?_
 by_cases hl:a.length=b.length
 ·have hl':(a.length:Int)=b.length:=by omega
  simp (disch:=omega) [go_sem,a1w,hl']
  refine a03 Nat (fun i st=>i<=a.length/\eqP p (a.drop i) (b.drop i)=eqP p a b/\st.s 0=slJ a/\st.s 1=slJ b/\st.s 2= .fn f [] []/\st.s 15=slJ a/\st.s 16=li a.length/\st.s 17=li i) (fun i=>a.length - i) 0 ⟨by simp,rfl,by simp (disch:=omega) [go_sem,hl']⟩ ?_
  rintro i st K ⟨hi,hm,h⟩ hK
  by_cases hlt:i < a.length
  ·have hlt2:i < b.length:=by omega
   rw [a8t hlt hlt2] at hm
   simp (disch:=omega) [go_sem,a1s,h,hlt,hlt2,hf]
   refine a04 (hp _ (List.getElem_mem hlt) _ (List.getElem_mem hlt2)) rfl rfl rfl rfl ?_
   cases k:p a[i] b[i] with
   | true=>
    rw [k,Bool.true_and] at hm
    simp (disch:=omega) [go_sem,h]
    exact hK (i+1) _ ⟨by omega,hm,by simp (disch:=omega) [go_sem,h]⟩ (by omega)
   | false=>
    rw [k,Bool.false_and] at hm
    simp (disch:=omega) [go_sem,h,<-hm]
  ·obtain rfl:i=a.length:=by omega
   rw [List.drop_length,hl,List.drop_length,eqP] at hm
   simp (disch:=omega) [go_sem,a1s,h,<-hm]
 ·have hl':¬ (a.length:Int)=b.length:=by omega
  simp (disch:=omega) [go_sem,a1w,hl',b0o hl]
theorem b7m (a b:Ds) (ha:a.shape.length < 2 ^ 62) (hb:b.shape.length < 2 ^ 62):ACalls pg G b4i [.agg (eD a),.agg (eD b)] (lb (decide (a=b))):=by
 refine b1f rfl ?_
 obtain ⟨s1,w1⟩:=a
 obtain ⟨s2,w2⟩:=b
 by_cases k:w1=w2
 ·simp (disch:=omega) [go_sem,a7k,eD,k]
  refine a0p (b0h s1 s2 ha hb) rfl rfl ?_
  simp (disch:=omega) [go_sem,Ds.mk.injEq,k]
 ·simp (disch:=omega) [go_sem,a7k,eD,k,Ds.mk.injEq]
theorem c6o (a b:Tn) (ha:a.shape.length < 2 ^ 62) (hb:b.shape.length < 2 ^ 62) (ha2:a.data.length < 2 ^ 62) (hb2:b.data.length < 2 ^ 62):ACalls pg G b59 [.agg (eT a),.agg (eT b)] (lb (decide (a=b))):=by
 refine b2c rfl ?_
 obtain ⟨s1,w1,d1⟩:=a
 obtain ⟨s2,w2,d2⟩:=b
 simp (disch:=omega) [go_sem,b1m,eT]
 refine a0p (b7m ⟨s1,w1⟩ ⟨s2,w2⟩ ha hb) rfl rfl ?_
 by_cases k:(⟨s1,w1⟩:Ds)=⟨s2,w2⟩
 ·simp (disch:=omega) [go_sem,k]
  refine a0p (b0h d1 d2 ha2 hb2) rfl rfl ?_
  obtain ⟨rfl,rfl⟩:s1=s2/\w1=w2:=by simpa using k
  simp (disch:=omega) [go_sem,Tn.mk.injEq]
 ·simp (disch:=omega) [go_sem,k]
  exact fun h1 h2 _=>k (by rw [h1,h2])
theorem c6r (a b:Vw) (ha:a.shape.length < 2 ^ 62) (hb:b.shape.length < 2 ^ 62):ACalls pg G 29 [.agg (eV a),.agg (eV b)] (lb (decide (a=b))):=by
 refine b0d rfl ?_
 obtain ⟨o1,s1,w1⟩:=a
 obtain ⟨o2,s2,w2⟩:=b
 by_cases k:o1=o2
 ·simp (disch:=omega) [go_sem,a6o,eV,k]
  refine a0p (b7m ⟨s1,w1⟩ ⟨s2,w2⟩ ha hb) rfl rfl ?_
  simp (disch:=omega) [go_sem,Vw.mk.injEq,k,Ds.mk.injEq]
 ·simp (disch:=omega) [go_sem,a6o,eV,k,Vw.mk.injEq]
theorem c5t (a b:In) (ha:a.ins.length < 2 ^ 62) (hb:b.ins.length < 2 ^ 62) (ha2:a.args.length < 2 ^ 62) (hb2:b.args.length < 2 ^ 62):ACalls pg G b0a [.agg (eI a),.agg (eI b)] (lb (decide (a=b))):=by
 refine a8j rfl ?_
 obtain ⟨o1,d1,i1,a1,f1,t1⟩:=a
 obtain ⟨o2,d2,i2,a2,f2,t2⟩:=b
 simp only at ha hb ha2 hb2
 by_cases k1:o1=o2
 ·subst k1
  by_cases k2:d1=d2
  ·subst k2
   simp (disch:=omega) [go_sem,a20,eI]
   refine a0p (b0h i1 i2 ha hb) rfl rfl ?_
   by_cases k3:i1=i2
   ·subst k3
    simp (disch:=omega) [go_sem]
    refine a0p (b0h a1 a2 ha2 hb2) rfl rfl ?_
    by_cases k4:a1=a2
    ·subst k4
     by_cases k5:f1=f2
     ·subst k5
      by_cases k6:t1=t2<;>simp (disch:=omega) [go_sem,k6,In.mk.injEq]
     ·simp (disch:=omega) [go_sem,k5,In.mk.injEq]
    ·simp (disch:=omega) [go_sem,k4,In.mk.injEq]
   ·simp (disch:=omega) [go_sem,k3,In.mk.injEq]
  ·simp (disch:=omega) [go_sem,a20,eI,k2,In.mk.injEq]
 ·simp (disch:=omega) [go_sem,a20,eI,k1,In.mk.injEq]
structure Pl.fin (p:Pl):Prop where
 vl:p.views.length < 2 ^ 62
 cl:p.consts.length < 2 ^ 62
 wl:p.weights.length < 2 ^ 62
 il:p.code.length < 2 ^ 62
 vs:∀ x∈p.views,x.shape.length < 2 ^ 62
 cs:∀ x∈p.consts,x.shape.length < 2 ^ 62/\x.data.length < 2 ^ 62
 ws:∀ x∈p.weights,x.shape.length < 2 ^ 62
 is:∀ x∈p.code,x.ins.length < 2 ^ 62/\x.args.length < 2 ^ 62
theorem a6j (p q:Pl) (hp:p.fin) (hq:q.fin):ACalls pg G b57 [.agg (eP p),.agg (eP q)] (lb (decide (p=q))):=by
 refine b15 rfl ?_
 have c1:=e3r (G:=G) (f:=29) b08 (p:=fun x y=>decide (x=y)) p.views q.views (fun x hx y hy=>(c6r x y (hp.vs x hx) (hq.vs y hy)).toX (by simp [noRef])) hp.vl hq.vl
 have c2:=e3s (G:=G) (f:=33) b34 (p:=fun x y=>decide (x=y)) p.consts q.consts (fun x hx y hy=>(c6o x y (hp.cs x hx).1 (hq.cs y hy).1 (hp.cs x hx).2 (hq.cs y hy).2).toX (by simp [noRef])) hp.cl hq.cl
 have c3:=e3t (G:=G) (f:=30) b18 (p:=fun x y=>decide (x=y)) p.weights q.weights (fun x hx y hy=>(b7m x y (hp.ws x hx) (hq.ws y hy)).toX (by simp [noRef])) hp.wl hq.wl
 have c4:=e3u (G:=G) (f:=36) a83 (p:=fun x y=>decide (x=y)) p.code q.code (fun x hx y hy=>(c5t x y (hp.is x hx).1 (hq.is y hy).1 (hp.is x hx).2 (hq.is y hy).2).toX (by simp [noRef])) hp.il hq.il
 rw [c0e fun _ _ _ _=>rfl] at c1 c2 c3 c4
 obtain ⟨s1,v1,k1,w1,i1,p1,o1⟩:=p
 obtain ⟨s2,v2,k2,w2,i2,p2,o2⟩:=q
 simp only at c1 c2 c3 c4
 clear hp hq
 by_cases e1:s1=s2
 ·subst e1
  by_cases e2:p1=p2
  ·subst e2
   by_cases e3:o1=o2
   ·subst e3
    simp (disch:=omega) [go_sem,a46,eP]
    refine a04 c1 rfl rfl rfl rfl ?_
    by_cases e4:v1=v2
    ·subst e4
     simp (disch:=omega) [go_sem]
     refine a04 c2 rfl rfl rfl rfl ?_
     by_cases e5:k1=k2
     ·subst e5
      simp (disch:=omega) [go_sem]
      refine a04 c3 rfl rfl rfl rfl ?_
      by_cases e6:w1=w2
      ·subst e6
       simp (disch:=omega) [go_sem]
       refine a04 c4 rfl rfl rfl rfl ?_
       by_cases e7:i1=i2<;>simp (disch:=omega) [go_sem,e7,Pl.mk.injEq]
      ·simp (disch:=omega) [go_sem,e6,Pl.mk.injEq]
     ·simp (disch:=omega) [go_sem,e5,Pl.mk.injEq]
    ·simp (disch:=omega) [go_sem,e4,Pl.mk.injEq]
   ·simp (disch:=omega) [go_sem,a46,eP,e3,Pl.mk.injEq]
  ·simp (disch:=omega) [go_sem,a46,eP,e2,Pl.mk.injEq]
 ·simp (disch:=omega) [go_sem,a46,eP,e1,Pl.mk.injEq]
end
end Go.Ideal.Tryd
end
section
namespace Go.Proofs.YtploijbaclgehaaDoor
open Go Go.ChangeShapes Go.WideShapes Go.RowKit Go.Ideal Go.Ideal.Tryd
section
variable {H:Type} {e:TypeId×Value->H} {w:World}
theorem b5l:Rd e Tryd.prog w Int 3 (fun n=>[li n]) (fun n=> -9223372036854775808<=n/\n<=9223372036854775807):=Rd.int Tryd.underlying3
theorem d59:Rd e Tryd.prog w Bool 4 (fun n=>[lb n]) (fun _=>True):=Rd.bool Tryd.underlying4
theorem b8g:Rd e Tryd.prog w (List Int) 34 (fun xs=>[slI xs]) (fun xs=>xs.length<=reachBytes/\∀ x∈xs,-9223372036854775808<=x/\x<=9223372036854775807):=
 Rd.slice1 Tryd.underlying34 (of_decide_eq_true (by kernel_rfl)) (of_decide_eq_true (by kernel_rfl)) (Rd.int Tryd.underlying3)
theorem a9u:Tryd.prog.cellsOf 3=1:=by kernel_rfl
theorem d1l:Tryd.prog.cellsOf 4=1:=by kernel_rfl
theorem b28:Tryd.prog.cellsOf 34=1:=by kernel_rfl
theorem b29:Tryd.prog.cellsOf 39=2:=by kernel_rfl
theorem b93:Tryd.prog.cellsOf 44=3:=by kernel_rfl
theorem b92:Tryd.prog.cellsOf 41=3:=by kernel_rfl
theorem b91:Tryd.prog.cellsOf 36=6:=by kernel_rfl
theorem c45:Tryd.prog.cellsOf 27=7:=by kernel_rfl
theorem c43:Tryd.prog.cellsOf 24=1:=by kernel_rfl
theorem c42:Tryd.prog.cellsOf 23=1:=by kernel_rfl
theorem c41:Tryd.prog.cellsOf 22=1:=by kernel_rfl
theorem c44:Tryd.prog.cellsOf 25=1:=by kernel_rfl
theorem e7e:Rd e Tryd.prog w Ds 39 eD (fun d=>d.shape.length<=reachBytes):=
 (Rd.struct (l:=[(34,0),(4,1)]) (by kernel_rfl) b29 (.cons b28 b8g (.cons d1l d59 .nil))).map (fun x=>⟨x.1,x.2.1⟩) (fun x=>rfl) (fun x hx=>hx.1.1)
theorem f3u:Rd e Tryd.prog w Tn 44 eT (fun d=>d.shape.length<=reachBytes/\d.data.length<=reachBytes):=
 (Rd.struct (l:=[(39,0),(34,2)]) (by kernel_rfl) b93 (.cons b29 e7e (.cons b28 b8g .nil))).map (fun x=>⟨x.1.shape,x.1.wide,x.2.1⟩) (fun x=>rfl) (fun x hx=>⟨hx.1,hx.2.1.1⟩)
theorem f3v:Rd e Tryd.prog w Vw 41 eV (fun d=>d.shape.length<=reachBytes):=
 (Rd.struct (l:=[(3,0),(39,1)]) (by kernel_rfl) b92 (.cons a9u b5l (.cons b29 e7e .nil))).map (fun x=>⟨x.1,x.2.1.shape,x.2.1.wide⟩) (fun x=>rfl) (fun x hx=>hx.2.1)
theorem f3t:Rd e Tryd.prog w In 36 eI (fun d=>d.ins.length<=reachBytes/\d.args.length<=reachBytes):=
 (Rd.struct (l:=[(3,0),(3,1),(34,2),(34,3),(3,4),(3,5)]) (by kernel_rfl) b91 (.cons a9u b5l (.cons a9u b5l (.cons b28 b8g (.cons b28 b8g (.cons a9u b5l (.cons a9u b5l .nil))))))).map
  (fun x=>⟨x.1,x.2.1,x.2.2.1,x.2.2.2.1,x.2.2.2.2.1,x.2.2.2.2.2.1⟩) (fun x=>rfl) (fun x hx=>⟨hx.2.2.1.1,hx.2.2.2.1.1⟩)
theorem e8m:Tryd.prog.underlying 24=some (.slice 39):=by kernel_rfl
theorem e7f:Rd e Tryd.prog w (List Ds) 24 (fun xs=>[slD xs]) (fun xs=>xs.length<=reachBytes/\∀ x∈xs,x.shape.length<=reachBytes):=
 Rd.slice e8m (of_decide_eq_true (by kernel_rfl)) e7e (fun x=>by rw [b29]; rfl)
theorem e8l:Tryd.prog.underlying 23=some (.slice 44):=by kernel_rfl
theorem e7k:Rd e Tryd.prog w (List Tn) 23 (fun xs=>[slT xs]) (fun xs=>xs.length<=reachBytes/\∀ x∈xs,x.shape.length<=reachBytes/\x.data.length<=reachBytes):=
 Rd.slice e8l (of_decide_eq_true (by kernel_rfl)) f3u (fun x=>by rw [b93]; rfl)
theorem e8k:Tryd.prog.underlying 22=some (.slice 41):=by kernel_rfl
theorem e7l:Rd e Tryd.prog w (List Vw) 22 (fun xs=>[slV xs]) (fun xs=>xs.length<=reachBytes/\∀ x∈xs,x.shape.length<=reachBytes):=
 Rd.slice e8k (of_decide_eq_true (by kernel_rfl)) f3v (fun x=>by rw [b92]; rfl)
theorem e8n:Tryd.prog.underlying 25=some (.slice 36):=by kernel_rfl
theorem e7g:Rd e Tryd.prog w (List In) 25 (fun xs=>[slJ xs]) (fun xs=>xs.length<=reachBytes/\∀ x∈xs,x.ins.length<=reachBytes/\x.args.length<=reachBytes):=
 Rd.slice e8n (of_decide_eq_true (by kernel_rfl)) f3t (fun x=>by rw [b91]; rfl)
theorem b7p:b1j Tryd.prog 27 [(3,0),(22,1),(23,2),(24,3),(25,4),(3,5),(3,6)]=true:=by kernel_rfl
theorem c4c:Rd e Tryd.prog w Pl 27 eP Pl.fin:=
 (Rd.struct b7p c45 (.cons a9u b5l (.cons c41 e7l (.cons c42 e7k (.cons c43 e7f (.cons c44 e7g (.cons a9u b5l (.cons a9u b5l .nil)))))))).map
  (fun x=>⟨x.1,x.2.1,x.2.2.1,x.2.2.2.1,x.2.2.2.2.1,x.2.2.2.2.2.1,x.2.2.2.2.2.2.1⟩) (fun x=>rfl)
  (fun x hx=>by
   obtain ⟨_,⟨v1,v2⟩,⟨c1,c2⟩,⟨w1,w2⟩,⟨i1,i2⟩,_⟩:=hx
   have k:∀ n:Nat,n<=reachBytes->n < 2 ^ 62:=fun n h=>Nat.lt_of_le_of_lt h (by unfold reachBytes; decide)
   exact ⟨k _ v1,k _ c1,k _ w1,k _ i1,fun x hx=>k _ (v2 x hx),fun x hx=>⟨k _ (c2 x hx).1,k _ (c2 x hx).2⟩,fun x hx=>k _ (w2 x hx),fun x hx=>⟨k _ (i2 x hx).1,k _ (i2 x hx).2⟩⟩)
end
end Go.Proofs.YtploijbaclgehaaDoor
end
