/- Part Qae of the proof: walks on a machine that is proved sound. -/
import Derived.Test.YtploijbaclgehaaDoorQad
set_option linter.unusedVariables false
set_option linter.unusedSimpArgs false
section
namespace Go.Ideal
section
variable {G:GG} {N d:Nat} {st:St}
def tkB (st:St) (N t:Nat) (q:List Nat) (lo n:Nat) (k:Option AV):Option (St×Nat×Nat×List AV):=match k with
 | some (.own sz n0 ks)=>gO (lo=0/\t < N/\n<=n0) (some (st.set t (a0h (st.s t) q .dead),sz,n,ks.take (n*sz)))
 | _=>none
@[congr] theorem d60 {t:Nat} {q:List Nat} {lo n:Nat} {k k':Option AV} (h:k=k'):tkB st N t q lo n k=tkB st N t q lo n k':=by rw [h]
@[go_sem] theorem e7s {t:Nat} {q:List Nat} {lo n sz n0:Nat} {ks:List AV}:tkB st N t q lo n (some (.own sz n0 ks))=gO (lo=0/\t < N/\n<=n0) (some (st.set t (a0h (st.s t) q .dead),sz,n,ks.take (n*sz))):=(rfl)
def tkS (st:St) (N:Nat) (x:X) (v:AV):Option (St×Nat×Nat×List AV):=match v with
 | .own sz n ks=>match x with
  | .t t=>some (st.put t .dead,sz,n,ks)
  | _=>some (st,sz,n,ks)
 | .bor t q lo n e=>tkB st N t q lo n (a1i st t q e)
 | _=>none
@[congr] theorem d61 {x:X} {v v':AV} (h:v=v'):tkS st N x v=tkS st N x v':=by rw [h]
@[go_sem] theorem e7u {t sz n:Nat} {ks:List AV}:tkS st N (.t t) (.own sz n ks)=some (st.put t .dead,sz,n,ks):=(rfl)
@[go_sem] theorem f1o {t sz n:Nat} {ks:List AV}:tkS st N (.nl t) (.own sz n ks)=some (st,sz,n,ks):=(rfl)
@[go_sem] theorem e7t {x:X} {t:Nat} {q:List Nat} {lo n e:Nat}:tkS st N x (.bor t q lo n e)=tkB st N t q lo n (a1i st t q e):=(rfl)
theorem b5b (x:X):(b7c x N).run st=(tkS st N x (rdv st x)).map fun r=>((),r.1.put N (.own r.2.1 r.2.2.1 r.2.2.2)):=by
 simp only [b7c,Ev.run_bind,a0o,Option.bind]
 cases hv:rdv st x<;>try rfl
 ·cases x<;>rfl
 ·rename_i t q lo n e
  simp only [tkS,Ev.run_bind,a07,Option.bind,a0d]
  by_cases he:e=st.ep t
  ·subst he
   simp only [a1i,if_true,beq_self_eq_true,Bool.true_and]
   cases hk:a0c (st.s t) q with
   | none=>
    simp only [tkB,Option.map]
    generalize (lo==0&&decide (t < N))=b
    cases b
    ·rfl
    ·simp only [if_true,a0q,hk]; rfl
   | some k=>
    by_cases h1:lo=0
    ·by_cases h2:t < N
     ·simp only [h1,h2,beq_self_eq_true,decide_true,Bool.and_self,if_true,a0q,hk,Option.map]
      cases k<;>try rfl
      rename_i sz n0 ks
      simp only [tkB,gO,Ev.run_bind,a0d,Option.bind,h2,true_and]
      by_cases h3:n<=n0
      ·simp only [h3,decide_true,if_true]; rfl
      ·simp only [h3,decide_false,Bool.false_eq_true,if_false]
     ·simp only [h2,decide_false,Bool.and_false,Bool.false_eq_true,if_false]
      cases k<;>try rfl
      simp only [tkB,gO,h2,false_and,and_false,if_false]; rfl
    ·have:(lo==0)=false:=by simpa using h1
     simp only [this,Bool.false_and,Bool.false_eq_true,if_false]
     cases k<;>try rfl
     simp only [tkB,gO,h1,false_and,if_false]; rfl
  ·have:(e==st.ep t)=false:=by simpa using he
   simp only [this,Bool.false_and,Bool.false_eq_true,if_false,a1i,he]; rfl
def srB (st:St) (N t:Nat) (q:List Nat) (lo n:Nat) (k:Option AV):Option (St×AV):=match k with
 | some (.own sz n0 ks)=>gO (t < N/\lo+n<=n0) (some (st.set t (a0h (st.s t) q (frz (.own sz n0 ks))),.sl n (((a1b ks).drop (lo*sz)).take (n*sz))))
 | _=>none
@[congr] theorem d6s {t:Nat} {q:List Nat} {lo n:Nat} {k k':Option AV} (h:k=k'):srB st N t q lo n k=srB st N t q lo n k':=by rw [h]
@[go_sem] theorem e7g {t:Nat} {q:List Nat} {lo n sz n0:Nat} {ks:List AV}:srB st N t q lo n (some (.own sz n0 ks))=gO (t < N/\lo+n<=n0) (some (st.set t (a0h (st.s t) q (frz (.own sz n0 ks))),.sl n (((a1b ks).drop (lo*sz)).take (n*sz)))):=(rfl)
def srS (st:St) (N:Nat) (x:X) (v:AV):Option (St×AV):=match v with
 | .own sz n ks=>match x with
  | .t t=>some (st.put t .dead,.own sz n ks)
  | _=>some (st,.own sz n ks)
 | .sl n ks=>some (st,.sl n ks)
 | .bor t q lo n e=>srB st N t q lo n (a1i st t q e)
 | _=>none
@[congr] theorem d6t {x:X} {v v':AV} (h:v=v'):srS st N x v=srS st N x v':=by rw [h]
@[go_sem] theorem e7i {t sz n:Nat} {ks:List AV}:srS st N (.t t) (.own sz n ks)=some (st.put t .dead,.own sz n ks):=(rfl)
@[go_sem] theorem f1i {t sz n:Nat} {ks:List AV}:srS st N (.nl t) (.own sz n ks)=some (st,.own sz n ks):=(rfl)
@[go_sem] theorem f1j {x:X} {n:Nat} {ks:List AV}:srS st N x (.sl n ks)=some (st,.sl n ks):=(rfl)
@[go_sem] theorem e7h {x:X} {t:Nat} {q:List Nat} {lo n e:Nat}:srS st N x (.bor t q lo n e)=srB st N t q lo n (a1i st t q e):=(rfl)
theorem c23 (x:X):(c9t x N).run st=(srS st N x (rdv st x)).map fun r=>((),r.1.put (N+1) r.2):=by
 simp only [c9t,Ev.run_bind,a0o,Option.bind]
 cases hv:rdv st x<;>try rfl
 ·cases x<;>rfl
 ·rename_i t q lo n e
  simp only [srS,Ev.run_bind,a07,Option.bind,a0d]
  by_cases he:e=st.ep t
  ·subst he
   simp only [a1i,if_true,beq_self_eq_true,Bool.true_and]
   cases hk:a0c (st.s t) q with
   | none=>
    simp only [srB,Option.map]
    generalize (decide (t < N))=b
    cases b
    ·rfl
    ·simp only [if_true,a0q,hk]; rfl
   | some k=>
    by_cases h2:t < N
    ·simp only [h2,decide_true,Bool.and_self,if_true,a0q,hk,Option.map]
     cases k<;>try rfl
     rename_i sz n0 ks
     simp only [srB,gO,Ev.run_bind,a0d,Option.bind,h2,true_and]
     by_cases h3:lo+n<=n0
     ·simp only [h3,decide_true,if_true]; rfl
     ·simp only [h3,decide_false,Bool.false_eq_true,if_false]
    ·simp only [h2,decide_false,Bool.and_false,Bool.false_eq_true,if_false]
     cases k<;>try rfl
     simp only [srB,gO,h2,false_and,and_false,if_false]; rfl
  ·have:(e==st.ep t)=false:=by simpa using he
   simp only [this,Bool.false_and,Bool.false_eq_true,if_false,a1i,he]; rfl
def apV (sz by_:Nat) (s y:AV):Option (AV):=match s,y with
 | .own sz1 n xs,.own sz2 m ys=>gO (sz1=sz/\sz2=sz/\(n+m)*by_<=140737488355328/\n+m<=140737488355328) (some (.own sz (n+m) (xs++ys)))
 | .own sz1 n xs,.sl m ys=>gO (sz1=sz/\ys.length=m*sz/\(n+m)*by_<=140737488355328/\n+m<=140737488355328) (some (.own sz (n+m) (xs++ys)))
 | _,_=>none
@[go_sem] theorem e12 {sz by_ sz1 sz2 n m:Nat} {xs ys:List AV}:apV sz by_ (.own sz1 n xs) (.own sz2 m ys)=gO (sz1=sz/\sz2=sz/\(n+m)*by_<=140737488355328/\n+m<=140737488355328) (some (.own sz (n+m) (xs++ys))):=(rfl)
@[go_sem] theorem e8a {sz by_ sz1 n m:Nat} {xs ys:List AV}:apV sz by_ (.own sz1 n xs) (.sl m ys)=gO (sz1=sz/\ys.length=m*sz/\(n+m)*by_<=140737488355328/\n+m<=140737488355328) (some (.own sz (n+m) (xs++ys))):=(rfl)
def apF (st:St) (N d:Nat) (o:Option AV):Option St:=match o with
 | some v=>some ((st.put (N+1) .dead).thru N d v)
 | none=>none
@[congr] theorem d0b {o o':Option AV} (h:o=o'):apF st N d o=apF st N d o':=by rw [h]
@[go_sem] theorem d7h {v:AV}:apF st N d (some v)=some ((st.put (N+1) .dead).thru N d v):=(rfl)
def ap2 (N d sz by_:Nat) (r:Option (St×AV)):Option St:=match r with
 | some (st2,v)=>apF (st2.put (N+1) v) N d (apV sz by_ ((st2.put (N+1) v).s N) v)
 | none=>none
@[congr] theorem d0a {sz by_:Nat} {r r':Option (St×AV)} (h:r=r'):ap2 N d sz by_ r=ap2 N d sz by_ r':=by rw [h]
@[go_sem] theorem d7g {sz by_:Nat} {v:AV}:ap2 N d sz by_ (some (st,v))=apF (st.put (N+1) v) N d (apV sz by_ ((st.put (N+1) v).s N) v):=(rfl)
def ap1 (N d sz by_:Nat) (y:X) (r:Option (St×Nat×Nat×List AV)):Option St:=match r with
 | some (st1,s,n,ks)=>ap2 N d sz by_ (srS (st1.put N (.own s n ks)) N y (rdv (st1.put N (.own s n ks)) y))
 | none=>none
@[congr] theorem c99 {sz by_:Nat} {y:X} {r r':Option (St×Nat×Nat×List AV)} (h:r=r'):ap1 N d sz by_ y r=ap1 N d sz by_ y r':=by rw [h]
@[go_sem] theorem d7f {sz by_ s n:Nat} {ks:List AV} {y:X}:ap1 N d sz by_ y (some (st,s,n,ks))=ap2 N d sz by_ (srS (st.put N (.own s n ks)) N y (rdv (st.put N (.own s n ks)) y)):=(rfl)
@[go_sem] theorem e3d {T e:TypeId} {sz by_:Nat} {x y:X}:evS G N (some d) (.app T e sz by_ x y) st=ap1 N d sz by_ y (tkS st N x (rdv st x)):=by
 simp only [evS,a0w,Ev.run_bind,b5b,Option.bind]
 cases tkS st N x (rdv st x) with
 | none=>rfl
 | some r=>
  obtain ⟨st1,s,n,ks⟩:=r
  simp only [Option.map,c23,ap1]
  cases srS (st1.put N (.own s n ks)) N y (rdv (st1.put N (.own s n ks)) y) with
  | none=>rfl
  | some r=>
   obtain ⟨st2,v⟩:=r
   have h1:(st2.put (N+1) v).s (N+1)=v:=by simp
   simp only [a35,ap2,h1]
   have hown:∀ sz1 n xs sz2 m ys,((do
     a0f (sz1==sz&&sz2==sz&&decide ((n+m)*by_<=140737488355328)&&decide (n+m<=140737488355328))
     a2a (N+1) .dead
     a26 N (some d) (.own sz (n+m) (xs++ys)):Ev Unit).run (st2.put (N+1) v)).map (·.2)=apF (st2.put (N+1) v) N d (gO (sz1=sz/\sz2=sz/\(n+m)*by_<=140737488355328/\n+m<=140737488355328) (some (.own sz (n+m) (xs++ys)))):=by
    intro sz1 n xs sz2 m ys
    simp only [Ev.run_bind,a0d,Option.bind,gO]
    by_cases hc:sz1=sz/\sz2=sz/\(n+m)*by_<=140737488355328/\n+m<=140737488355328
    ·have:(sz1==sz&&sz2==sz&&decide ((n+m)*by_<=140737488355328)&&decide (n+m<=140737488355328))=true:=by
      simp only [Bool.and_eq_true,decide_eq_true_eq,beq_iff_eq]
      exact ⟨⟨⟨hc.1,hc.2.1⟩,hc.2.2.1⟩,hc.2.2.2⟩
     simp only [this,if_true,if_pos hc]; rfl
    ·have:(sz1==sz&&sz2==sz&&decide ((n+m)*by_<=140737488355328)&&decide (n+m<=140737488355328))=false:=by
      rw [Bool.eq_false_iff]; intro hh
      simp only [Bool.and_eq_true,decide_eq_true_eq,beq_iff_eq] at hh
      exact hc ⟨hh.1.1.1,hh.1.1.2,hh.1.2,hh.2⟩
     simp only [this,Bool.false_eq_true,if_false,if_neg hc]; rfl
   have hsl:∀ sz1 n xs m ys,((do
     a0f (sz1==sz&&decide (ys.length=m*sz)&&decide ((n+m)*by_<=140737488355328)&&decide (n+m<=140737488355328))
     a2a (N+1) .dead
     a26 N (some d) (.own sz (n+m) (xs++ys)):Ev Unit).run (st2.put (N+1) v)).map (·.2)=apF (st2.put (N+1) v) N d (gO (sz1=sz/\ys.length=m*sz/\(n+m)*by_<=140737488355328/\n+m<=140737488355328) (some (.own sz (n+m) (xs++ys)))):=by
    intro sz1 n xs m ys
    simp only [Ev.run_bind,a0d,Option.bind,gO]
    by_cases hc:sz1=sz/\ys.length=m*sz/\(n+m)*by_<=140737488355328/\n+m<=140737488355328
    ·have:(sz1==sz&&decide (ys.length=m*sz)&&decide ((n+m)*by_<=140737488355328)&&decide (n+m<=140737488355328))=true:=by
      simp only [Bool.and_eq_true,decide_eq_true_eq,beq_iff_eq]
      exact ⟨⟨⟨hc.1,hc.2.1⟩,hc.2.2.1⟩,hc.2.2.2⟩
     simp only [this,if_true,if_pos hc]; rfl
    ·have:(sz1==sz&&decide (ys.length=m*sz)&&decide ((n+m)*by_<=140737488355328)&&decide (n+m<=140737488355328))=false:=by
      rw [Bool.eq_false_iff]; intro hh
      simp only [Bool.and_eq_true,decide_eq_true_eq,beq_iff_eq] at hh
      exact hc ⟨hh.1.1.1,hh.1.1.2,hh.1.2,hh.2⟩
     simp only [this,Bool.false_eq_true,if_false,if_neg hc]; rfl
   cases hs:(st2.put (N+1) v).s N<;>try rfl
   cases v<;>first | rfl | exact hown _ _ _ _ _ _ | exact hsl _ _ _ _ _
def b72 (N:Nat):List (Nat×Nat×X)->St->Option St
 | [],st=>some st
 | (off,sz,x)::rest,st=>match giv st N x (rdv st x) with
  | some (st1,cs)=>match st1.s (N+1) with
   | .agg zs=>gO (cs.length=sz/\off+sz<=zs.length) (b72 N rest ((st1.put N .dead).put (N+1) (.agg (a0n zs off cs))))
   | _=>none
  | none=>none
@[congr] theorem c80 {l l':List (Nat×Nat×X)} {st':St} (hl:l=l') (h:st=st'):b72 N l st=b72 N l' st':=by rw [hl,h]
@[go_sem] theorem e0o:b72 N [] st=some st:=(rfl)
def c8y (N off sz:Nat) (rest:List (Nat×Nat×X)) (st:St) (cs:List AV) (v:AV):Option St:=match v with
 | .agg zs=>gO (cs.length=sz/\off+sz<=zs.length) (b72 N rest ((st.put N .dead).put (N+1) (.agg (a0n zs off cs))))
 | _=>none
@[congr] theorem c8z {off sz:Nat} {rest:List (Nat×Nat×X)} {cs:List AV} {v v':AV} (h:v=v'):c8y N off sz rest st cs v=c8y N off sz rest st cs v':=by rw [h]
@[go_sem] theorem e0n {off sz:Nat} {rest:List (Nat×Nat×X)} {cs zs:List AV}:c8y N off sz rest st cs (.agg zs)=gO (cs.length=sz/\off+sz<=zs.length) (b72 N rest ((st.put N .dead).put (N+1) (.agg (a0n zs off cs)))):=(rfl)
def d5b (N off sz:Nat) (rest:List (Nat×Nat×X)) (r:Option (St×List AV)):Option St:=match r with
 | some (st1,cs)=>c8y N off sz rest st1 cs (st1.s (N+1))
 | none=>none
@[congr] theorem c8x {off sz:Nat} {rest:List (Nat×Nat×X)} {r r':Option (St×List AV)} (h:r=r'):d5b N off sz rest r=d5b N off sz rest r':=by rw [h]
@[go_sem] theorem d5c {off sz:Nat} {rest:List (Nat×Nat×X)} {cs:List AV}:d5b N off sz rest (some (st,cs))=c8y N off sz rest st cs (st.s (N+1)):=(rfl)
@[go_sem] theorem d5d {off sz:Nat} {x:X} {rest:List (Nat×Nat×X)}:b72 N ((off,sz,x)::rest) st=d5b N off sz rest (giv st N x (rdv st x)):=by
 simp only [b72,d5b]
 cases giv st N x (rdv st x) with
 | none=>rfl
 | some r=>obtain ⟨st1,cs⟩:=r; simp only [c8y]
theorem a9k:∀ (l:List (Nat×Nat×X)) (st:St),(a5v N l).run st=(b72 N l st).map fun st=>((),st)
 | [],st=>rfl
 | (off,sz,x)::rest,st=>by
  simp only [a5v,Ev.run_bind,a80,Option.bind,b72]
  cases giv st N x (rdv st x) with
  | none=>rfl
  | some r=>
   obtain ⟨st1,cs⟩:=r
   have hN:(st1.put N (.agg cs)).s N= .agg cs:=by simp
   have hN1:(st1.put N (.agg cs)).s (N+1)=st1.s (N+1):=by simp
   simp only [Option.map,b5l,Ev.run_bind,a35,Option.bind,hN,Ev.run_pure,hN1]
   cases st1.s (N+1)<;>try rfl
   rename_i zs
   simp only [Ev.run_pure,a0d,gO]
   by_cases hc:cs.length=sz/\off+sz<=zs.length
   ·simp only [hc.1,hc.2,decide_true,Bool.and_self,if_true,and_self,a5e,a9u (show nm (AV.agg cs)=false from rfl)]
    exact a9k rest _
   ·have:(decide (cs.length=sz)&&decide (off+sz<=zs.length))=false:=by
     rw [Bool.eq_false_iff]; intro hh
     simp only [Bool.and_eq_true,decide_eq_true_eq] at hh
     exact hc hh
    simp only [this,Bool.false_eq_true,if_false,if_neg hc]
def d0s (st:St) (N d:Nat) (v:AV):Option St:=match v with
 | .agg ks=>some ((st.put (N+1) .dead).put d (.agg ks))
 | _=>none
@[congr] theorem c6w {v v':AV} (h:v=v'):d0s st N d v=d0s st N d v':=by rw [h]
@[go_sem] theorem d7u {ks:List AV}:d0s st N d (.agg ks)=some ((st.put (N+1) .dead).put d (.agg ks)):=(rfl)
def d0q (N d:Nat) (o:Option St):Option St:=match o with
 | some st=>d0s st N d (st.s (N+1))
 | none=>none
@[congr] theorem c6v {o o':Option St} (h:o=o'):d0q N d o=d0q N d o':=by rw [h]
@[go_sem] theorem d0r:d0q N d (some st)=d0s st N d (st.s (N+1)):=(rfl)
@[go_sem] theorem d1x {T:TypeId} {zs:List AV} {parts:List (Nat×Nat×Nat×X)}:evS G N (some d) (.build T zs parts) st=d0q N d (b72 N (parts.map fun p=>p.2) (st.put (N+1) (.agg zs))):=by
 simp only [evS,a0w,Ev.run_bind,a5e,Option.bind,a9k]
 cases b72 N (parts.map fun p=>p.2) (st.put (N+1) (.agg zs)) with
 | none=>rfl
 | some s=>
  simp only [Option.map,b5l,Ev.run_bind,a35,Option.bind,d0q]
  cases s.s (N+1)<;>rfl
def d0x (st:St) (N d sz len:Nat) (v:AV):Option St:=match v with
 | .agg ks=>some (st.thru (N+1) d (.own sz len ks))
 | _=>none
@[congr] theorem c6z {sz len:Nat} {v v':AV} (h:v=v'):d0x st N d sz len v=d0x st N d sz len v':=by rw [h]
@[go_sem] theorem d7z {sz len:Nat} {ks:List AV}:d0x st N d sz len (.agg ks)=some (st.thru (N+1) d (.own sz len ks)):=(rfl)
def d0v (N d sz len:Nat) (o:Option St):Option St:=match o with
 | some st=>d0x st N d sz len (st.s (N+1))
 | none=>none
@[congr] theorem c6y {sz len:Nat} {o o':Option St} (h:o=o'):d0v N d sz len o=d0v N d sz len o':=by rw [h]
@[go_sem] theorem d0w {sz len:Nat}:d0v N d sz len (some st)=d0x st N d sz len (st.s (N+1)):=(rfl)
@[go_sem] theorem c7v {T e:TypeId} {sz len:Nat} {zs:List AV} {parts:List (Nat×X)}:evS G N (some d) (.bslice T e sz len zs parts) st=d0v N d sz len (b72 N (parts.map fun p=>(p.1*sz,sz,p.2)) (st.put (N+1) (.agg (b1l len zs)))):=by
 simp only [evS,a0w,Ev.run_bind,a5e,Option.bind,a9k]
 cases b72 N (parts.map fun p=>(p.1*sz,sz,p.2)) (st.put (N+1) (.agg (b1l len zs))) with
 | none=>rfl
 | some s=>
  simp only [Option.map,b5l,Ev.run_bind,a35,Option.bind,d0v]
  cases s.s (N+1)<;>rfl
def d0t (N d sz:Nat) (r:Option (St×List AV)):Option St:=match r with
 | some (st1,cs)=>gO (cs.length=sz) (some ((st1.put N (.agg cs)).thru N d (.var cs)))
 | none=>none
@[congr] theorem c6x {sz:Nat} {r r':Option (St×List AV)} (h:r=r'):d0t N d sz r=d0t N d sz r':=by rw [h]
@[go_sem] theorem d0u {sz:Nat} {cs:List AV}:d0t N d sz (some (st,cs))=gO (cs.length=sz) (some ((st.put N (.agg cs)).thru N d (.var cs))):=(rfl)
@[go_sem] theorem e3f {T:TypeId} {sz:Nat} {x:X}:evS G N (some d) (.box T sz x) st=d0t N d sz (giv st N x (rdv st x)):=by
 simp only [evS,a0w,Ev.run_bind,a80,Option.bind]
 cases giv st N x (rdv st x) with
 | none=>rfl
 | some r=>
  obtain ⟨st1,cs⟩:=r
  have hN:(st1.put N (.agg cs)).s N= .agg cs:=by simp
  simp only [Option.map,b5l,Ev.run_bind,a35,Option.bind,hN,Ev.run_pure,a0d,d0t,gO]
  by_cases hc:cs.length=sz
  ·simp only [hc,decide_true,if_true]; rfl
  ·simp only [hc,decide_false,Bool.false_eq_true,if_false]
def d3x (st:St) (N d sz by_:Nat) (zs:List AV) (l c:Option Int):Option St:=match l,c with
 | some n,some m=>gO (0<=n/\n<=m/\m*by_<=140737488355328/\m<=140737488355328) (some (st.thru N d (.own sz n.toNat (b1l n.toNat zs))))
 | _,_=>none
@[congr] theorem c8m {sz by_:Nat} {zs:List AV} {l l' c c':Option Int} (h:l=l') (h2:c=c'):d3x st N d sz by_ zs l c=d3x st N d sz by_ zs l' c':=by rw [h,h2]
@[go_sem] theorem d3y {sz by_:Nat} {zs:List AV} {n m:Int}:d3x st N d sz by_ zs (some n) (some m)=gO (0<=n/\n<=m/\m*by_<=140737488355328/\m<=140737488355328) (some (st.thru N d (.own sz n.toNat (b1l n.toNat zs)))):=(rfl)
@[go_sem] theorem e3n {T e:TypeId} {sz by_:Nat} {zs:List AV} {l c:X}:evS G N (some d) (.mks T e sz by_ zs l c) st=d3x st N d sz by_ zs (c1i (rdv st l)) (c1i (rdv st c)):=by
 simp only [evS,a0w,Ev.run_bind,b0b,Option.bind,d3x]
 cases c1i (rdv st l) with
 | none=>rfl
 | some n=>
  simp only [Option.map,b0b]
  cases c1i (rdv st c) with
  | none=>rfl
  | some m=>
   simp only [Option.map,Ev.run_bind,a0d,Option.bind,gO]
   by_cases hc:0<=n/\n<=m/\m*by_<=140737488355328/\m<=140737488355328
   ·obtain ⟨h1,h2,h3,h4⟩:=hc
    simp only [h1,h2,h3,h4,decide_true,Bool.and_self,if_true,and_self]; rfl
   ·have:(decide (0<=n)&&decide (n<=m)&&decide (m*by_<=140737488355328)&&decide (m<=140737488355328))=false:=by
     rw [Bool.eq_false_iff]; intro hh
     simp only [Bool.and_eq_true,decide_eq_true_eq] at hh
     exact hc ⟨hh.1.1.1,hh.1.1.2,hh.1.2,hh.2⟩
    simp only [this,Bool.false_eq_true,if_false,if_neg hc]
def c8k (st:St) (d:Nat) (T:TypeId) (x:X) (v:AV):Option St:=match v with
 | .lit v=>some (st.put d (.lit (.iface T v)))
 | .var ks=>match x with
  | .t t=>some ((st.set t (frz (.var ks))).put d (.ifc T (frz (.var ks))))
  | _=>none
 | .ip ks o=>some (st.put d (.ifc T (.ip ks o)))
 | _=>none
@[congr] theorem c8l {T:TypeId} {x:X} {v v':AV} (h:v=v'):c8k st d T x v=c8k st d T x v':=by rw [h]
@[go_sem] theorem e3m {T:TypeId} {x:X}:evS G N (some d) (.mki T x) st=c8k st d T x (rdv st x):=by
 simp only [evS,a0w,Ev.run_bind,a0o,Option.bind]
 cases hv:rdv st x<;>try rfl
 cases x<;>rfl
@[go_sem] theorem d9w {T:TypeId} {x:X} {v:Value}:c8k st d T x (.lit v)=some (st.put d (.lit (.iface T v))):=(rfl)
@[go_sem] theorem d9x {T:TypeId} {t:Nat} {ks:List AV}:c8k st d T (.t t) (.var ks)=some ((st.set t (.ip (a1b ks) 0)).put d (.ifc T (.ip (a1b ks) 0))):=(rfl)
@[go_sem] theorem e5g {T:TypeId} {x:X} {ks:List AV} {o:Nat}:c8k st d T x (.ip ks o)=some (st.put d (.ifc T (.ip ks o))):=(rfl)
def c46 (st:St) (d:Nat) (k:Option AV):Option St:=match k with
 | some k=>if a0i k then some (st.put d k) else none
 | none=>none
@[congr] theorem c70 {k k':Option AV} (h:k=k'):c46 st d k=c46 st d k':=by rw [h]
@[go_sem] theorem d2h {k:AV}:c46 st d (some k)=iO (a0i k) (some (st.put d k)) none:=(rfl)
def d2i (st:St) (d off:Nat) (v:AV):Option St:=match v with
 | .agg ks=>c46 st d ks[off]?
 | _=>none
@[congr] theorem c71 {off:Nat} {v v':AV} (h:v=v'):d2i st d off v=d2i st d off v':=by rw [h]
@[go_sem] theorem d8v {off:Nat} {ks:List AV}:d2i st d off (.agg ks)=c46 st d ks[off]? :=(rfl)
@[go_sem] theorem e3i {T off f:Nat} {x:X}:evS G N (some d) (.fld T off x f) st=d2i st d off (rdv st x):=by
 simp only [evS,a0w,Ev.run_bind,a0o,Option.bind]
 cases hv:rdv st x<;>try rfl
 rename_i ks
 simp only [d2i,Ev.run_bind,a0q,Option.bind]
 cases ks[off]? with
 | none=>rfl
 | some k=>
  simp only [c46,Ev.run_bind,a0d,Option.bind]
  cases hn:a0i k
  ·simp [c46,Ev.run_bind,a0d,a0q,hn]
  ·simp only [Option.map,hn,if_true]; rfl
def c44 (st:St) (N d:Nat) (x:X) (i:Nat) (ks:List AV) (k:Option AV):Option St:=match k with
 | some k=>if a0i k then some (st.put d k) else match x with
  | .t t=>some ((st.put t (.tup (ks.set i .dead))).thru N d k)
  | _=>none
 | none=>none
@[congr] theorem c7x {x:X} {i:Nat} {ks:List AV} {k k':Option AV} (h:k=k'):c44 st N d x i ks k=c44 st N d x i ks k':=by rw [h]
@[go_sem] theorem d19 {t i:Nat} {ks:List AV} {k:AV}:c44 st N d (.t t) i ks (some k)=iO (a0i k) (some (st.put d k)) (some ((st.put t (.tup (ks.set i .dead))).thru N d k)):=(rfl)
def d2a (st:St) (N d:Nat) (x:X) (i:Nat) (v:AV):Option St:=match v with
 | .tup ks=>c44 st N d x i ks ks[i]?
 | _=>none
@[congr] theorem c7y {x:X} {i:Nat} {v v':AV} (h:v=v'):d2a st N d x i v=d2a st N d x i v':=by rw [h]
@[go_sem] theorem d8s {x:X} {i:Nat} {ks:List AV}:d2a st N d x i (.tup ks)=c44 st N d x i ks ks[i]? :=(rfl)
@[go_sem] theorem e3h {x:X} {i:Nat}:evS G N (some d) (.ext x i) st=d2a st N d x i (rdv st x):=by
 simp only [evS,a0w,Ev.run_bind,a0o,Option.bind]
 cases hv:rdv st x<;>try rfl
 rename_i ks
 simp only [d2a,Ev.run_bind,a0q,Option.bind]
 cases ks[i]? with
 | none=>rfl
 | some k=>
  simp only [Option.map,c44]
  generalize a0i k=b
  cases b<;>cases x<;>rfl
def c31 (T:TypeId) (zs:List AV) (v:AV):Option AV:=match v,zs with
 | .lit .nilIface,[z]=>some (.tup [z,.lit (.bool false)])
 | .lit (.iface T' u),[z]=>some (.tup (if T'=T then [.lit u,.lit (.bool true)] else [z,.lit (.bool false)]))
 | .ifc T' k,[z]=>if a0i k then some (.tup (if T'=T then [k,.lit (.bool true)] else [z,.lit (.bool false)])) else none
 | _,_=>none
@[congr] theorem c9z {T:TypeId} {zs:List AV} {v v':AV} (h:v=v'):c31 T zs v=c31 T zs v':=by rw [h]
@[go_sem] theorem e1s {T:TypeId} {z:AV}:c31 T [z] (.lit .nilIface)=some (.tup [z,.lit (.bool false)]):=(rfl)
@[go_sem] theorem e1r {T T':TypeId} {u:Value} {z:AV}:c31 T [z] (.lit (.iface T' u))=some (.tup (if T'=T then [.lit u,.lit (.bool true)] else [z,.lit (.bool false)])):=(rfl)
@[go_sem] theorem e7o {T T':TypeId} {ks:List AV} {o:Nat} {z:AV}:c31 T [z] (.ifc T' (.ip ks o))=some (.tup (if T'=T then [.ip ks o,.lit (.bool true)] else [z,.lit (.bool false)])):=(rfl)
@[go_sem] theorem e3s {x:X} {xT T:TypeId} {zs:List AV}:evS G N (some d) (.tas x xT T zs) st=b0a st d (c31 T zs (rdv st x)):=by
 simp only [evS,a0w,Ev.run_bind,a0o,Option.bind]
 have two:∀ v:AV,(∀ z,zs≠[z])->((match v,zs with
  | .lit .nilIface,[z]=>setD (some d) (.tup [z,.lit (.bool false)])
  | .lit (.iface T' u),[z]=>setD (some d) (.tup (if T'=T then [.lit u,.lit (.bool true)] else [z,.lit (.bool false)]))
  | .ifc T' k,[z]=>do
   a0f (a0i k)
   setD (some d) (.tup (if T'=T then [k,.lit (.bool true)] else [z,.lit (.bool false)]))
  | _,_=>Ev.fail:Ev Unit).run st).map (·.2)=b0a st d (c31 T zs v):=by
  intro v h
  cases v<;>(cases zs with
   | nil=>first | rfl | (rename_i v; cases v<;>rfl)
   | cons a l=>cases l with
    | nil=>exact (h a rfl).elim
    | cons b l=>first | rfl | (rename_i v; cases v<;>rfl))
 cases zs with
 | nil=>exact two _ (by simp)
 | cons z l=>
  cases l with
  | cons b l=>exact two _ (by simp)
  | nil=>
   cases hv:rdv st x<;>try rfl
   ·rename_i v; cases v<;>rfl
   ·simp only [Ev.run_bind,a0d,Option.bind,c31]
    generalize a0i _=b
    cases b<;>rfl
def cvI (k:IntKind) (v:AV):Option AV:=match v with
 | .lit (.int _ n)=>some (.lit (.int k (k.wrap n)))
 | _=>none
@[congr] theorem d1b {k:IntKind} {v v':AV} (h:v=v'):cvI k v=cvI k v':=by rw [h]
@[go_sem] theorem e2o {k k':IntKind} {n:Int}:cvI k (.lit (.int k' n))=some (.lit (.int k (k.wrap n))):=(rfl)
@[go_sem] theorem d8m {s t:TypeId} {k:IntKind} {x:X}:evS G N (some d) (.conv s t (.int k) x) st=b0a st d (cvI k (rdv st x)):=by
 simp only [evS,a0w,Ev.run_bind,a4j,Option.bind]
 cases rdv st x<;>try rfl
 rename_i v; cases v<;>rfl
def mmO (mx:Bool) (u v:AV):Option AV:=match u,v with
 | .lit (.int k a),.lit (.int k' b)=>if k=k' then some (.lit (.int k (if mx then (if b > a then b else a) else (if b < a then b else a)))) else none
 | _,_=>none
@[go_sem] theorem e5i {mx:Bool} {k:IntKind} {a b:Int}:mmO mx (.lit (.int k a)) (.lit (.int k b))=some (.lit (.int k (if mx then (if b > a then b else a) else (if b < a then b else a)))):=by simp [mmO]
@[go_sem] theorem e9l {mx:Bool} {ts:List TypeId} {x y:X}:evS G N (some d) (.mm mx ts [x,y]) st=b0a st d (mmO mx (rdv st x) (rdv st y)):=by
 simp only [evS,a0w,Ev.run_bind,a4j,Option.bind]
 cases rdv st x<;>try rfl
 simp only [a4j]
 cases rdv st y
 case lit.lit u v=>
  cases u<;>try rfl
  rename_i k a
  cases v<;>try rfl
  rename_i k' b
  simp only [mmO,Ev.run_bind,a0d,Option.bind]
  by_cases h:k=k'
  ·simp only [h,decide_true,if_true]; rfl
  ·simp only [h,decide_false,Bool.false_eq_true,if_false]; rfl
 all_goals first | rfl | (rename_i u; cases u<;>rfl) | (rename_i u _; cases u<;>rfl) | (rename_i u _ _; cases u<;>rfl) | (rename_i u _ _ _; cases u<;>rfl) | (rename_i u _ _ _ _; cases u<;>rfl) | (rename_i u _ _ _ _ _; cases u<;>rfl)
def b3x (st:St):List X->Option (List AV)
 | []=>some []
 | x::xs=>match rdv st x with
  | .var _=>match x with
   | .t t=>(b3x st xs).map fun ks=> .ref t [] 0 (st.ep t)::ks
   | _=>none
  | .own _ _ _=>none
  | .dead=>none
  | .agg _=>none
  | .tup _=>none
  | .ifc _ _=>none
  | .bor _ _ _ _ _=>none
  | .mp _ _=>none
  | .loan _=>none
  | k=>(b3x st xs).map fun ks=>k::ks
theorem a7c:∀ (xs:List X),(a91 xs).run st=(b3x st xs).map fun ks=>(ks,st)
 | []=>rfl
 | x::xs=>by
  have ih:=a7c xs
  simp only [a91,Ev.run_bind,a0o,Option.bind,b3x]
  cases hv:rdv st x<;>try (first | rfl | (simp only [Ev.run_bind,ih,Option.bind]; cases b3x st xs<;>rfl))
  cases x<;>try rfl
  simp only [a9z,Ev.run,Ev.run_bind,ih,Option.bind,rde]
  cases b3x st xs<;>rfl
def c3j (x:X) (v:AV) (st:St) (r:Option (List AV)):Option (List AV):=match v with
  | .var _=>match x with
   | .t t=>r.map fun ks=> .ref t [] 0 (st.ep t)::ks
   | _=>none
  | .own _ _ _=>none
  | .dead=>none
  | .agg _=>none
  | .tup _=>none
  | .ifc _ _=>none
  | .bor _ _ _ _ _=>none
  | .mp _ _=>none
  | .loan _=>none
  | k=>r.map fun ks=>k::ks
@[go_sem] theorem d73:b3x st []=some []:=(rfl)
@[go_sem] theorem d03 {x:X} {xs:List X}:b3x st (x::xs)=c3j x (rdv st x) st (b3x st xs):=by
 simp only [b3x,c3j]
@[go_sem] theorem d72 {t:Nat} {ks l:List AV}:c3j (.t t) (.var ks) st (some l)=some (.ref t [] 0 (st.ep t)::l):=(rfl)
@[go_sem] theorem d70 {x:X} {v:Value} {l:List AV}:c3j x (.lit v) st (some l)=some (.lit v::l):=(rfl)
@[go_sem] theorem e2i {x:X} {n:Nat} {ks l:List AV}:c3j x (.sl n ks) st (some l)=some (.sl n ks::l):=(rfl)
@[go_sem] theorem e2h {x:X} {n:Nat} {ks l:List AV}:c3j x (.ip ks n) st (some l)=some (.ip ks n::l):=(rfl)
@[go_sem] theorem e2g {x:X} {f:FuncId} {a b l:List AV}:c3j x (.fn f a b) st (some l)=some (.fn f a b::l):=(rfl)
@[go_sem] theorem d71 {x:X} {t:Nat} {q:List Nat} {o e:Nat} {l:List AV}:c3j x (.ref t q o e) st (some l)=some (.ref t q o e::l):=(rfl)
def e5f (f:FuncId) (a b:Option (List AV)):Option AV:=match a,b with
 | some a,some b=>some (.fn f a b)
 | _,_=>none
@[go_sem] theorem d3w {f:FuncId} {a b:List AV}:e5f f (some a) (some b)=some (.fn f a b):=(rfl)
@[go_sem] theorem e3l {f:FuncId} {fs cs:List X}:evS G N (some d) (.mkf f fs cs) st=b0a st d (e5f f (b3x st fs) (b3x st cs)):=by
 simp only [evS,a0w,Ev.run_bind,a7c,Option.bind]
 cases b3x st fs with
 | none=>rfl
 | some a=>
  simp only [Option.map,a7c]
  cases b3x st cs<;>rfl
def b8j:List X->St->St
 | [],st=>st
 | .t n::xs,st=>b8j xs (match st.s n with
  | .var ks=>st.set n (frz (.var ks))
  | _=>st)
 | _::xs,st=>b8j xs st
def c2f (n:Nat) (v:AV) (st:St):St:=match v with
 | .var ks=>st.set n (.ip (a1b ks) 0)
 | _=>st
@[go_sem] theorem d80 {st:St}:b8j [] st=st:=(rfl)
@[congr] theorem c72 {n:Nat} {v v':AV} {st:St} (h:v=v'):c2f n v st=c2f n v' st:=by rw [h]
@[go_sem] theorem e9q {st:St} {n:Nat} {xs:List X}:b8j (.t n::xs) st=b8j xs (c2f n (st.s n) st):=by
 simp only [b8j,c2f]
 cases st.s n<;>simp [frz]
@[go_sem] theorem e9p {st:St} {v:Value} {xs:List X}:b8j (.c v::xs) st=b8j xs st:=(rfl)
@[go_sem] theorem d8y {n:Nat} {ks:List AV} {st:St}:c2f n (.var ks) st=st.set n (.ip (a1b ks) 0):=(rfl)
@[go_sem] theorem e35 {n o:Nat} {ks:List AV} {st:St}:c2f n (.ip ks o) st=st:=(rfl)
@[go_sem] theorem d8x {n:Nat} {v:Value} {st:St}:c2f n (.lit v) st=st:=(rfl)
@[go_sem] theorem e36 {n m:Nat} {ks:List AV} {st:St}:c2f n (.sl m ks) st=st:=(rfl)
@[go_sem] theorem e34 {n:Nat} {f:FuncId} {a b:List AV} {st:St}:c2f n (.fn f a b) st=st:=(rfl)
theorem a23:∀ (xs:List X) (st:St),(a61 xs).run st=some ((),b8j xs st)
 | [],st=>rfl
 | x::xs,st=>by
  simp only [a61,Ev.run_bind,a0o,Option.bind]
  cases x with
  | t n=>
   simp only [rdv,b8j]
   cases hv:st.s n<;>simp only [hv]<;>try exact a23 xs st
   simp only [a9z,Ev.run_bind,Ev.run,a83,Option.bind]
   exact a23 xs _
  | c v=>exact a23 xs st
  | nl sz=>exact a23 xs st
  | g n=>exact a23 xs st
  | f n=>exact a23 xs st
def e5h (st:St) (d:Nat) (f:FuncId) (fs cs:List X):Option St:=b0a st d (e5f f (b3x st fs) (b3x st cs))
@[go_sem] theorem e3o {f:FuncId} {fs cs:List X}:evS G N (some d) (.mkz f fs cs) st=e5h (b8j cs st) d f fs cs:=by
 simp only [evS,a0w,Ev.run_bind,a23,a7c,Option.bind,e5h]
 cases b3x (b8j cs st) fs with
 | none=>rfl
 | some a=>
  simp only [Option.map,a7c]
  cases b3x (b8j cs st) cs<;>rfl
attribute [go_sem] e5h
def e3c (G:GG) (b:BinOp) (tp:TypeId) (d:Option Nat) (u v:Value):Ev Unit:=match u,v with
  | .iface t1 (.pointer (some a)),.iface t2 (.pointer (some c))=>do
   a0f (t1==tp&&t2==tp&&(decide (a=c)||((G a.block).isSome&&(G c.block).isSome)))
   match b with
   | .eql=>setD d (.lit (.bool (decide (a=c))))
   | .neq=>setD d (.lit (.bool (!(decide (a=c)))))
   | _=> .fail
  | _,_=> .fail
def d1u (G:GG) (b:BinOp) (tp:TypeId) (st:St) (d:Nat) (u v:Option Value):Option St:=match u,v with
 | some u,some v=>((e3c G b tp (some d) u v).run st).map (·.2)
 | _,_=>none
@[congr] theorem c7u {b:BinOp} {tp:TypeId} {u v u' v':Option Value} (h:u=u') (h2:v=v'):d1u G b tp st d u v=d1u G b tp st d u' v':=by rw [h,h2]
def e2c (b:BinOp) (c:Bool):Option AV:=match b with
 | .eql=>some (.lit (.bool c))
 | .neq=>some (.lit (.bool (!c)))
 | _=>none
@[go_sem] theorem d7s {c:Bool}:e2c .eql c=some (.lit (.bool c)):=(rfl)
@[go_sem] theorem d7t {c:Bool}:e2c .neq c=some (.lit (.bool !c)):=(rfl)
@[go_sem] theorem d8l {b:BinOp} {tp t1 t2:TypeId} {a c:Addr}:d1u G b tp st d (some (.iface t1 (.pointer (some a)))) (some (.iface t2 (.pointer (some c))))=gO (t1=tp/\t2=tp/\(a=c\/((G a.block).isSome=true/\(G c.block).isSome=true))) (b0a st d (e2c b (decide (a=c)))):=by
 simp only [d1u,e3c,gO,Ev.run_bind,a0d,Option.bind]
 by_cases h:t1=tp/\t2=tp/\(a=c\/((G a.block).isSome=true/\(G c.block).isSome=true))
 ·have:(t1==tp&&t2==tp&&(decide (a=c)||((G a.block).isSome&&(G c.block).isSome)))=true:=by
   simp only [Bool.and_eq_true,Bool.or_eq_true,beq_iff_eq,decide_eq_true_eq]; exact ⟨⟨h.1,h.2.1⟩,h.2.2⟩
  rw [if_pos h]
  simp only [this,if_true]
  cases b<;>rfl
 ·have:(t1==tp&&t2==tp&&(decide (a=c)||((G a.block).isSome&&(G c.block).isSome)))=false:=by
   rw [Bool.eq_false_iff]; intro hh
   simp only [Bool.and_eq_true,Bool.or_eq_true,beq_iff_eq,decide_eq_true_eq] at hh
   exact h ⟨hh.1.1,hh.1.2,hh.2⟩
  rw [if_neg h]
  simp only [this,Bool.false_eq_true,if_false]; rfl
@[go_sem] theorem e3g {b:BinOp} {T tp te:TypeId} {x y:X} {yT:TypeId}:evS G N (some d) (.eqs b T tp te x y yT) st=d1u G b tp st d (c8i (rdv st x)) (c8i (rdv st y)):=by
 have e:a0w G N (some d) (.eqs b T tp te x y yT)=(b3y x >>=fun u=>b3y y >>=fun v=>e3c G b tp (some d) u v):=rfl
 simp only [evS,e,Ev.run_bind,b5a,Option.bind]
 cases c8i (rdv st x) with
 | none=>rfl
 | some u=>
  simp only [Option.map,b5a]
  cases c8i (rdv st y)<;>rfl
end
section
variable {P:Program} {G:GG} {N:Nat} {st:St} {K:St->Prop}
def gvB (st:St) (N t:Nat) (q:List Nat) (lo n j:Nat) (k:Option AV):Option St:=match k with
 | some (.own sz n0 ks)=>gO (lo=0/\t < N/\n<=n0) (some ((st.set t (a0h (st.s t) q .dead)).put j (.own sz n (ks.take (n*sz)))))
 | _=>none
@[congr] theorem d20 {t:Nat} {q:List Nat} {lo n j:Nat} {k k':Option AV} (h:k=k'):gvB st N t q lo n j k=gvB st N t q lo n j k':=by rw [h]
@[go_sem] theorem e4m {t:Nat} {q:List Nat} {lo n j sz n0:Nat} {ks:List AV}:gvB st N t q lo n j (some (.own sz n0 ks))=gO (lo=0/\t < N/\n<=n0) (some ((st.set t (a0h (st.s t) q .dead)).put j (.own sz n (ks.take (n*sz))))):=(rfl)
def gvS (st:St) (N:Nat) (x:X) (j:Nat) (v:AV):Option St:=match v with
 | .dead=>none
 | .bor t q lo n e=>gvB st N t q lo n j (a1i st t q e)
 | v=>if noRef v then ((a2y x j v).run st).map (·.2) else none
@[congr] theorem d21 {x:X} {j:Nat} {v v':AV} (h:v=v'):gvS st N x j v=gvS st N x j v':=by rw [h]
theorem c0x (x:X) (j:Nat):((b6i N x j).run st).map (·.2)=gvS st N x j (rdv st x):=by
 simp only [b6i,Ev.run_bind,a0o,Option.bind]
 cases hv:rdv st x
 case dead=>rfl
 case bor t q lo n e=>
  simp only [gvS,Ev.run_bind,a07,Option.bind,a0d]
  by_cases he:e=st.ep t
  ·subst he
   simp only [a1i,if_true,beq_self_eq_true,Bool.true_and]
   cases hk:a0c (st.s t) q with
   | none=>
    simp only [gvB]
    generalize (lo==0&&decide (t < N))=b
    cases b
    ·rfl
    ·simp only [if_true,a0q,hk]; rfl
   | some k=>
    by_cases h1:lo=0
    ·by_cases h2:t < N
     ·simp only [h1,h2,beq_self_eq_true,decide_true,Bool.and_self,if_true,a0q,hk]
      cases k<;>try rfl
      rename_i sz n0 ks
      simp only [Option.map,gvB,gO,Ev.run_bind,a0d,Option.bind,h2,true_and]
      by_cases h3:n<=n0
      ·simp only [h3,decide_true,if_true]; rfl
      ·simp only [h3,decide_false,Bool.false_eq_true,if_false]
     ·simp only [h2,decide_false,Bool.and_false,Bool.false_eq_true,if_false]
      cases k<;>try rfl
      simp only [gvB,gO,h2,false_and,and_false,if_false]; rfl
    ·have:(lo==0)=false:=by simpa using h1
     simp only [this,Bool.false_and,Bool.false_eq_true,if_false]
     cases k<;>try rfl
     simp only [gvB,gO,h1,false_and,if_false]; rfl
  ·have:(e==st.ep t)=false:=by simpa using he
   simp only [this,Bool.false_and,Bool.false_eq_true,if_false,a1i,he]; rfl
 all_goals (simp only [gvS,Ev.run_bind,a0d,Option.bind]; generalize noRef _=b; cases b<;>rfl)
section
variable {j:Nat}
def c5t (b:Bool) (r:Option St):Option St:=if b then r else none
@[congr] theorem c8u {b b':Bool} {r:Option St} (h:b=b'):c5t b r=c5t b' r:=by rw [h]
@[go_sem] theorem f00 {r:Option St}:c5t true r=r:=(rfl)
@[go_sem] theorem e4o {x:X} {t:Nat} {q:List Nat} {lo n e:Nat}:gvS st N x j (.bor t q lo n e)=gvB st N t q lo n j (a1i st t q e):=(rfl)
@[go_sem] theorem e4q {x:X} {v:Value}:gvS st N x j (.lit v)=some (st.put j (.lit v)):=by cases x<;>rfl
@[go_sem] theorem e97 {x:X} {n:Nat} {ks:List AV}:gvS st N x j (.sl n ks)=some (st.put j (.sl n ks)):=by cases x<;>rfl
@[go_sem] theorem e95 {x:X} {n:Nat} {ks:List AV}:gvS st N x j (.ip ks n)=some (st.put j (.ip ks n)):=by cases x<;>rfl
@[go_sem] theorem e94 {x:X} {f:FuncId} {a b:List AV}:gvS st N x j (.fn f a b)=c5t (noRef (.fn f a b)) (some (st.put j (.fn f a b))):=by
 simp only [gvS,c5t]; generalize noRef _=r; cases r<;>cases x<;>rfl
@[go_sem] theorem e4r {t sz n:Nat} {ks:List AV}:gvS st N (.t t) j (.own sz n ks)=some ((st.put t .dead).put j (.own sz n ks)):=(rfl)
@[go_sem] theorem e96 {t sz n:Nat} {ks:List AV}:gvS st N (.nl t) j (.own sz n ks)=some (st.put j (.own sz n ks)):=(rfl)
@[go_sem] theorem e4t {t:Nat} {ks:List AV}:gvS st N (.t t) j (.var ks)=some ((st.put t .dead).put j (.var ks)):=(rfl)
@[go_sem] theorem e4n {t:Nat} {ks:List AV}:gvS st N (.t t) j (.agg ks)=iO (a0j ks) (some (st.put j (.agg ks))) (some ((st.put t .dead).put j (.agg ks))):=by
 by_cases h:a0j ks=true
 ·simp only [gvS,noRef,if_true,a2y,a0i,iO,h]; rfl
 ·simp only [gvS,noRef,if_true,a2y,a0i,iO,h]; rfl
@[go_sem] theorem e4s {t:Nat} {ks:List AV}:gvS st N (.t t) j (.tup ks)=iO (a0j ks) (some (st.put j (.tup ks))) (some ((st.put t .dead).put j (.tup ks))):=by
 by_cases h:a0j ks=true
 ·simp only [gvS,noRef,if_true,a2y,a0i,iO,h]; rfl
 ·simp only [gvS,noRef,if_true,a2y,a0i,iO,h]; rfl
@[go_sem] theorem e4p {t:Nat} {T:TypeId} {k:AV}:gvS st N (.t t) j (.ifc T k)=iO (a0i k) (some (st.put j (.ifc T k))) (some ((st.put t .dead).put j (.ifc T k))):=by
 by_cases h:a0i k=true
 ·simp only [gvS,noRef,if_true,a2y,a0i,iO,h]; rfl
 ·simp only [gvS,noRef,if_true,a2y,a0i,iO,h]; rfl
end
def psB (st:St) (N t:Nat) (q:List Nat) (lo n j:Nat) (k:Option AV):Option St:=match k with
 | some (.own sz n0 ks)=>gO (t < N/\lo+n<=n0) (some ((st.set t (a0h (st.s t) q (frz (.own sz n0 ks)))).put j (.sl n (((a1b ks).drop (lo*sz)).take (n*sz)))))
 | _=>none
@[congr] theorem d5e {t:Nat} {q:List Nat} {lo n j:Nat} {k k':Option AV} (h:k=k'):psB st N t q lo n j k=psB st N t q lo n j k':=by rw [h]
@[go_sem] theorem e6h {t:Nat} {q:List Nat} {lo n j sz n0:Nat} {ks:List AV}:psB st N t q lo n j (some (.own sz n0 ks))=gO (t < N/\lo+n<=n0) (some ((st.set t (a0h (st.s t) q (frz (.own sz n0 ks)))).put j (.sl n (((a1b ks).drop (lo*sz)).take (n*sz))))):=(rfl)
def b1t (k:AV) (o:Option (St×List AV)):Option (St×List AV):=match o with
 | some r=>some (r.1,k::r.2)
 | none=>none
@[congr] theorem c5x {k:AV} {o o':Option (St×List AV)} (h:o=o'):b1t k o=b1t k o':=by rw [h]
@[go_sem] theorem c8w {k:AV} {s:St} {l:List AV}:b1t k (some (s,l))=some (s,k::l):=(rfl)
def c2z (N t0:Nat) (st:St) (t:Nat) (q:List Nat) (lo n:Nat) (K:St->Option (St×List AV)) (k:Option AV):Option (St×List AV):=match k with
 | some (.own sz n0 kk)=>gO (t=t0/\t0 < N/\lo+n<=n0) (b1t (.sl n (((a1b kk).drop (lo*sz)).take (n*sz))) (K (st.set t (a0h (st.s t) q (frz (.own sz n0 kk))))))
 | _=>none
@[congr] theorem c81 {t0 t:Nat} {q:List Nat} {lo n:Nat} {K:St->Option (St×List AV)} {k k':Option AV} (h:k=k'):c2z N t0 st t q lo n K k=c2z N t0 st t q lo n K k':=by rw [h]
@[go_sem] theorem e0p {t0 t:Nat} {q:List Nat} {lo n sz n0:Nat} {K:St->Option (St×List AV)} {kk:List AV}:c2z N t0 st t q lo n K (some (.own sz n0 kk))=gO (t=t0/\t0 < N/\lo+n<=n0) (b1t (.sl n (((a1b kk).drop (lo*sz)).take (n*sz))) (K (st.set t (a0h (st.s t) q (frz (.own sz n0 kk)))))):=(rfl)
def psL (N t0:Nat):List AV->St->Option (St×List AV)
 | [],st=>some (st,[])
 | .bor t q lo n e::ks,st=>c2z N t0 st t q lo n (fun s=>psL N t0 ks s) (a1i st t q e)
 | k::ks,st=>if a3m k then b1t k (psL N t0 ks st) else none
@[go_sem] theorem e6k {t0:Nat}:psL N t0 [] st=some (st,[]):=(rfl)
@[go_sem] theorem e6i {t0 t:Nat} {q:List Nat} {lo n e:Nat} {ks:List AV}:psL N t0 (.bor t q lo n e::ks) st=c2z N t0 st t q lo n (fun s=>psL N t0 ks s) (a1i st t q e):=(rfl)
@[go_sem] theorem e6j {t0:Nat} {v:Value} {ks:List AV}:psL N t0 (.lit v::ks) st=b1t (.lit v) (psL N t0 ks st):=(rfl)
@[go_sem] theorem f09 {t0 n:Nat} {k ks:List AV}:psL N t0 (.sl n k::ks) st=b1t (.sl n k) (psL N t0 ks st):=(rfl)
@[go_sem] theorem f08 {t0 n:Nat} {k ks:List AV}:psL N t0 (.ip k n::ks) st=b1t (.ip k n) (psL N t0 ks st):=(rfl)
attribute [go_sem] b4t
theorem b04 {t0:Nat}:∀ (ks:List AV) (st:St),(a7t N t0 ks).run st=(psL N t0 ks st).map fun r=>(r.2,r.1)
 | [],st=>rfl
 | k::ks,st=>by
  have plain:(do a0f (a3m k); let l<-a7t N t0 ks; pure (k::l):Ev (List AV)).run st=(if a3m k then b1t k (psL N t0 ks st) else none:Option (St×List AV)).map fun r=>(r.2,r.1):=by
   simp only [Ev.run_bind,a0d,Option.bind]
   cases a3m k with
   | false=>rfl
   | true=>
    simp only [if_true,b04 ks st]
    cases psL N t0 ks st<;>rfl
  cases k with
  | bor t q lo n e=>
   simp only [a7t,psL,Ev.run_bind,a0d,Option.bind,a07]
   by_cases ht:t=t0
   ·subst ht
    simp only [beq_self_eq_true,if_true]
    by_cases he:e=st.ep t
    ·subst he
     simp only [a1i,if_true,beq_self_eq_true,Bool.true_and]
     cases hk:a0c (st.s t) q with
     | none=>
      simp only [c2z]
      generalize (decide (t < N))=b
      cases b
      ·rfl
      ·simp only [if_true,a0q,hk]; rfl
     | some k=>
      by_cases h2:t < N
      ·simp only [h2,decide_true,if_true,a0q,hk]
       cases k<;>try rfl
       rename_i sz n0 kk
       simp only [Option.map,c2z,gO,Ev.run_bind,a0d,Option.bind,h2,true_and]
       by_cases h3:lo+n<=n0
       ·simp only [h3,decide_true,if_true,a83,b04 ks]
        cases psL N t ks (st.set t (a0h (st.s t) q (frz (.own sz n0 kk))))<;>rfl
       ·simp only [h3,decide_false,Bool.false_eq_true,if_false]
      ·simp only [h2,decide_false,Bool.false_eq_true,if_false]
       cases k<;>try rfl
       simp only [c2z,gO,h2,false_and,and_false,if_false]; rfl
    ·have:(e==st.ep t)=false:=by simpa using he
     simp only [this,Bool.false_and,Bool.false_eq_true,if_false,a1i,he]; rfl
   ·have h0:(t==t0)=false:=by simpa using ht
    simp only [h0,Bool.false_eq_true,if_false]
    generalize a1i st t q e=k
    cases k with
    | none=>rfl
    | some k=>cases k<;>first | rfl | (simp only [c2z,gO,ht,false_and,if_false]; rfl)
  | _=>exact plain
def d5f (j:Nat) (o:Option (St×List AV)):Option St:=match o with
 | some r=>some (r.1.put j (.agg r.2))
 | none=>none
@[congr] theorem c82 {j:Nat} {o o':Option (St×List AV)} (h:o=o'):d5f j o=d5f j o':=by rw [h]
@[go_sem] theorem d5g {j:Nat} {s:St} {l:List AV}:d5f j (some (s,l))=some (s.put j (.agg l)):=(rfl)
def c83 (st:St) (N j:Nat) (ks:List AV) (t:Option Nat):Option St:=match t with
 | some t=>d5f j (psL N t ks st)
 | none=>none
@[congr] theorem c84 {j:Nat} {ks:List AV} {t t':Option Nat} (h:t=t'):c83 st N j ks t=c83 st N j ks t':=by rw [h]
@[go_sem] theorem d5h {j t:Nat} {ks:List AV}:c83 st N j ks (some t)=d5f j (psL N t ks st):=(rfl)
def psS (st:St) (N:Nat) (x:X) (j:Nat) (v:AV):Option St:=match v with
 | .dead=>none
 | .bor t q lo n e=>psB st N t q lo n j (a1i st t q e)
 | .loan ks=>c83 st N j ks (b4t ks)
 | v=>if noRef v then ((a2l x j v).run st).map (·.2) else none
@[congr] theorem d5i {x:X} {j:Nat} {v v':AV} (h:v=v'):psS st N x j v=psS st N x j v':=by rw [h]
theorem c0z (x:X) (j:Nat):((b3n N x j).run st).map (·.2)=psS st N x j (rdv st x):=by
 simp only [b3n,Ev.run_bind,a0o,Option.bind]
 cases hv:rdv st x
 case dead=>rfl
 case bor t q lo n e=>
  simp only [psS,Ev.run_bind,a07,Option.bind,a0d]
  by_cases he:e=st.ep t
  ·subst he
   simp only [a1i,if_true,beq_self_eq_true,Bool.true_and]
   cases hk:a0c (st.s t) q with
   | none=>
    simp only [psB]
    generalize (decide (t < N))=b
    cases b
    ·rfl
    ·simp only [if_true,a0q,hk]; rfl
   | some k=>
    by_cases h2:t < N
    ·simp only [h2,decide_true,if_true,a0q,hk]
     cases k<;>try rfl
     rename_i sz n0 ks
     simp only [Option.map,psB,gO,Ev.run_bind,a0d,Option.bind,h2,true_and]
     by_cases h3:lo+n<=n0
     ·simp only [h3,decide_true,if_true]; rfl
     ·simp only [h3,decide_false,Bool.false_eq_true,if_false]
    ·simp only [h2,decide_false,Bool.false_eq_true,if_false]
     cases k<;>try rfl
     simp only [psB,gO,h2,false_and,if_false]; rfl
  ·have:(e==st.ep t)=false:=by simpa using he
   simp only [this,Bool.false_and,Bool.false_eq_true,if_false,a1i,he]; rfl
 case loan ks=>
  simp only [psS,Ev.run_bind,a0q]
  cases b4t ks with
  | none=>rfl
  | some t=>
   simp only [Option.map,Option.bind,c83,Ev.run_bind,b04 ks st]
   cases psL N t ks st<;>rfl
 all_goals (simp only [psS,Ev.run_bind,a0d,Option.bind]; generalize noRef _=b; cases b<;>rfl)
section
variable {j:Nat}
@[go_sem] theorem e6m {x:X} {t:Nat} {q:List Nat} {lo n e:Nat}:psS st N x j (.bor t q lo n e)=psB st N t q lo n j (a1i st t q e):=(rfl)
@[go_sem] theorem e0r {x:X} {ks:List AV}:psS st N x j (.loan ks)=c83 st N j ks (b4t ks):=(rfl)
@[go_sem] theorem e6o {x:X} {v:Value}:psS st N x j (.lit v)=some (st.put j (.lit v)):=by cases x<;>rfl
@[go_sem] theorem f1d {x:X} {n:Nat} {ks:List AV}:psS st N x j (.sl n ks)=some (st.put j (.sl n ks)):=by cases x<;>rfl
@[go_sem] theorem f1b {x:X} {n:Nat} {ks:List AV}:psS st N x j (.ip ks n)=some (st.put j (.ip ks n)):=by cases x<;>rfl
@[go_sem] theorem f1a {x:X} {f:FuncId} {a b:List AV}:psS st N x j (.fn f a b)=c5t (noRef (.fn f a b)) (some (st.put j (.fn f a b))):=by
 simp only [psS,c5t]; generalize noRef _=r; cases r<;>cases x<;>rfl
@[go_sem] theorem e6p {t sz n:Nat} {ks:List AV}:psS st N (.t t) j (.own sz n ks)=some ((st.set t (.sl n (a1b ks))).put j (.sl n (a1b ks))):=(rfl)
@[go_sem] theorem f1c {t sz n:Nat} {ks:List AV}:psS st N (.nl t) j (.own sz n ks)=some (st.put j (.sl n (a1b ks))):=(rfl)
@[go_sem] theorem e6r {t:Nat} {ks:List AV}:psS st N (.t t) j (.var ks)=some ((st.set t (.ip (a1b ks) 0)).put j (.ip (a1b ks) 0)):=(rfl)
@[go_sem] theorem e6l {t:Nat} {ks:List AV}:psS st N (.t t) j (.agg ks)=iO (a0j ks) (some (st.put j (.agg ks))) (some ((st.set t (.agg (a1b ks))).put j (.agg (a1b ks)))):=by
 by_cases h:a0j ks=true
 ·simp only [psS,noRef,if_true,a2l,a0i,iO,h]; rfl
 ·simp only [psS,noRef,if_true,a2l,a0i,iO,h]; rfl
@[go_sem] theorem e6q {t:Nat} {ks:List AV}:psS st N (.t t) j (.tup ks)=iO (a0j ks) (some (st.put j (.tup ks))) (some ((st.set t (.tup (a1b ks))).put j (.tup (a1b ks)))):=by
 by_cases h:a0j ks=true
 ·simp only [psS,noRef,if_true,a2l,a0i,iO,h]; rfl
 ·simp only [psS,noRef,if_true,a2l,a0i,iO,h]; rfl
@[go_sem] theorem e6n {t:Nat} {T:TypeId} {k:AV}:psS st N (.t t) j (.ifc T k)=iO (a0i k) (some (st.put j (.ifc T k))) (some ((st.set t (.ifc T (frz k))).put j (.ifc T (frz k)))):=by
 by_cases h:a0i k=true
 ·simp only [psS,noRef,if_true,a2l,a0i,iO,h]; rfl
 ·simp only [psS,noRef,if_true,a2l,a0i,iO,h]; rfl
end
def gvs (N:Nat):Nat->List (Bool×X)->Option St->Option St
 | _,_,none=>none
 | _,[],some st=>some st
 | j,(true,x)::xs,some st=>gvs N (j+1) xs (gvS st N x j (rdv st x))
 | j,(false,_)::xs,some st=>gvs N (j+1) xs (some st)
def pss (N:Nat):Nat->List (Bool×X)->Option St->Option St
 | _,_,none=>none
 | _,[],some st=>some st
 | j,(false,x)::xs,some st=>pss N (j+1) xs (psS st N x j (rdv st x))
 | j,(true,_)::xs,some st=>pss N (j+1) xs (some st)
@[congr] theorem d22 {j:Nat} {xs:List (Bool×X)} {o o':Option St} (h:o=o'):gvs N j xs o=gvs N j xs o':=by rw [h]
@[congr] theorem d5j {j:Nat} {xs:List (Bool×X)} {o o':Option St} (h:o=o'):pss N j xs o=pss N j xs o':=by rw [h]
@[go_sem] theorem e4u {j:Nat}:gvs N j [] (some st)=some st:=(rfl)
@[go_sem] theorem f2m {j:Nat} {x:X} {xs:List (Bool×X)}:gvs N j ((true,x)::xs) (some st)=gvs N (j+1) xs (gvS st N x j (rdv st x)):=(rfl)
@[go_sem] theorem f2l {j:Nat} {x:X} {xs:List (Bool×X)}:gvs N j ((false,x)::xs) (some st)=gvs N (j+1) xs (some st):=(rfl)
@[go_sem] theorem e6s {j:Nat}:pss N j [] (some st)=some st:=(rfl)
@[go_sem] theorem f2w {j:Nat} {x:X} {xs:List (Bool×X)}:pss N j ((false,x)::xs) (some st)=pss N (j+1) xs (psS st N x j (rdv st x)):=(rfl)
@[go_sem] theorem f2x {j:Nat} {x:X} {xs:List (Bool×X)}:pss N j ((true,x)::xs) (some st)=pss N (j+1) xs (some st):=(rfl)
theorem c2h {j:Nat} {xs:List (Bool×X)}:gvs N j xs none=none:=by cases xs<;>rfl
theorem c20 {j:Nat} {xs:List (Bool×X)}:pss N j xs none=none:=by cases xs<;>rfl
theorem a5z:∀ (xs:List (Bool×X)) (j:Nat) (st:St),((a4e N j xs).run st).map (·.2)=gvs N j xs (some st)
 | [],j,st=>rfl
 | (b,x)::xs,j,st=>by
  simp only [a4e,Ev.run_bind,Option.bind]
  cases b with
  | true=>
   have h:=c0x (N:=N) (st:=st) x j
   simp only [if_true,gvs]
   rw [<-h]
   cases (b6i N x j).run st with
   | none=>simp [c2h]
   | some r=>exact a5z xs (j+1) r.2
  | false=>
   simp only [Bool.false_eq_true,if_false,Ev.run_pure]
   exact a5z xs (j+1) st
theorem a24:∀ (xs:List (Bool×X)) (j:Nat) (st:St),((a2s N j xs).run st).map (·.2)=pss N j xs (some st)
 | [],j,st=>rfl
 | (b,x)::xs,j,st=>by
  simp only [a2s,Ev.run_bind,Option.bind]
  cases b with
  | false=>
   have h:=c0z (N:=N) (st:=st) x j
   simp only [Bool.false_eq_true,if_false,pss]
   rw [<-h]
   cases (b3n N x j).run st with
   | none=>simp [c20]
   | some r=>exact a24 xs (j+1) r.2
  | true=>
   simp only [if_true,Ev.run_pure]
   exact a24 xs (j+1) st
def b0g (st:St) (N:Nat) (d:Option Nat) (res:AV):St:=match d with
 | some d=>(st.clear N).thru N d res
 | none=>st.clear N
@[go_sem] theorem d2c {d:Nat} {res:AV}:b0g st N (some d) res=(st.clear N).thru N d res:=(rfl)
@[go_sem] theorem d2b {res:AV}:b0g st N none res=st.clear N:=(rfl)
def cal (P:Program) (G:GG) (N:Nat) (d:Option Nat) (f:FuncId) (pre:List AV) (st1 st2:St) (K:St->Prop):Prop:=
 ∃ res,ACalls P G f pre res/\noRef res=true/\K (b0g (if a0v res then st1 else st2) N d res)
def c1r (P:Program) (G:GG) (N:Nat) (d:Option Nat) (f:FuncId) (n:Nat) (o1 o2:Option St) (K:St->Prop):Prop:=match o1,o2 with
 | some st1,some st2=>cal P G N d f (a34 N n st2) st1 st2 K
 | _,_=>False
def c4l (P:Program) (G:GG) (N:Nat) (d:Option Nat) (f:FuncId) (args:List (Bool×X)) (o1:Option St) (K:St->Prop):Prop:=c1r P G N d f args.length o1 (pss N (N+2) args o1) K
@[congr] theorem c60 {d:Option Nat} {f:FuncId} {args:List (Bool×X)} {o1 o1':Option St} (h:o1=o1'):c4l P G N d f args o1 K=c4l P G N d f args o1' K:=by rw [h]
@[congr] theorem c61 {d:Option Nat} {f:FuncId} {n:Nat} {o1 o2 o2':Option St} (h:o2=o2'):c1r P G N d f n o1 o2 K=c1r P G N d f n o1 o2' K:=by rw [h]
@[congr] theorem d02 {d:Option Nat} {f:FuncId} {pre pre':List AV} {st1 st2:St} (h:pre=pre'):cal P G N d f pre st1 st2 K=cal P G N d f pre' st1 st2 K:=by rw [h]
@[go_sem] theorem d00 {d:Option Nat} {f:FuncId} {args:List (Bool×X)}:c4l P G N d f args (some st) K=c1r P G N d f args.length (some st) (pss N (N+2) args (some st)) K:=(rfl)
@[go_sem] theorem d01 {d:Option Nat} {f:FuncId} {n:Nat} {st2:St}:c1r P G N d f n (some st) (some st2) K=cal P G N d f (a34 N n st2) st st2 K:=(rfl)
@[go_sem] theorem c95 {d:Option Nat} {f:FuncId} {args:List (Bool×X)} {tys:List TypeId} {rest:List AO}:a8e P G N (⟨d,.call f args tys,none⟩::rest) K st=c4l P G N d f args (gvs N (N+2) args (some st)) (a8e P G N rest K):=by
 simp only [a8e,a74,b1o,c32]
 rw [<-a5z]
 apply propext
 constructor
 ·rintro ⟨st1,st2,res,st3,h1,h2,h3,h4,h5,h6⟩
  have e2:=a24 (N:=N) args (N+2) st1
  rw [h2] at e2
  simp only [h1,Option.map,c4l,c1r,<-e2]
  refine ⟨res,h3,h4,?_⟩
  have:b0g (if a0v res then st1 else st2) N d res=st3:=by
   cases d with
   | none=>
    simp only [b5n,Ev.run_pure,Option.some.injEq,Prod.mk.injEq,true_and] at h5
    exact h5
   | some d=>
    simp only [b5n,a50,Option.some.injEq,Prod.mk.injEq,true_and] at h5
    exact h5
  rw [this]; exact h6
 ·cases h1:(a4e N (N+2) args).run st with
  | none=>intro h; simp only [Option.map,c4l,c1r] at h
  | some r=>
   obtain ⟨_,st1⟩:=r
   simp only [Option.map,c4l]
   rw [<-a24]
   cases h2:(a2s N (N+2) args).run st1 with
   | none=>intro h; simp only [Option.map,c1r] at h
   | some r2=>
    obtain ⟨_,st2⟩:=r2
    simp only [Option.map,c1r]
    rintro ⟨res,h3,h4,h5⟩
    refine ⟨st1,st2,res,_,rfl,h2,h3,h4,?_,h5⟩
    cases d<;>rfl
@[go_sem] theorem e6a:a34 N 0 st=[]:=(rfl)
@[go_sem] theorem e6b:a34 N 1 st=[st.s (N+2+0)]:=(rfl)
@[go_sem] theorem e6c:a34 N 2 st=[st.s (N+2+0),st.s (N+2+1)]:=(rfl)
@[go_sem] theorem e6d:a34 N 3 st=[st.s (N+2+0),st.s (N+2+1),st.s (N+2+2)]:=(rfl)
@[go_sem] theorem e6e:a34 N 4 st=[st.s (N+2+0),st.s (N+2+1),st.s (N+2+2),st.s (N+2+3)]:=(rfl)
@[go_sem] theorem e6f:a34 N 5 st=[st.s (N+2+0),st.s (N+2+1),st.s (N+2+2),st.s (N+2+3),st.s (N+2+4)]:=(rfl)
@[go_sem] theorem e6g:a34 N 6 st=[st.s (N+2+0),st.s (N+2+1),st.s (N+2+2),st.s (N+2+3),st.s (N+2+4),st.s (N+2+5)]:=(rfl)
theorem a0p {d:Option Nat} {f:FuncId} {pre:List AV} {st1 st2:St} {res:AV} (hA:ACalls P G f pre res) (hn:noRef res=true) (hi:a0v res=true) (h:K (b0g st1 N d res)):cal P G N d f pre st1 st2 K:=⟨res,hA,hn,by rw [hi]; exact h⟩
theorem c4m {d:Option Nat} {f:FuncId} {pre:List AV} {st1 st2:St} {res:AV} (hA:ACalls P G f pre res) (hn:noRef res=true) (h:K (b0g st1 N d res)) (h2:K (b0g st2 N d res)):cal P G N d f pre st1 st2 K:=⟨res,hA,hn,by split; exact h; exact h2⟩
inductive RV where
 | tmp (t:Nat)
 | cell (t:Nat)
 | cells (t sz:Nat)
def RV.ok (P:Program) (N:Nat):RV->ResultVar->Bool
 | .tmp t,.tmp t'=>t==t'&&decide (t < N)
 | .cell t,.cell t' T=>t==t'&&decide (t < N)&&b16 P T==some false
 | .cells t sz,.cell t' T=>t==t'&&decide (t < N)&&b16 P T==some true&&a7u P T sz
 | _,_=>false
def b5c (r:RV) (st:St):Option AV:=match r with
 | .tmp t=>if noRef (st.s t) then some (st.s t) else none
 | .cell t=>match st.s t with
  | .var [k]=>some k
  | _=>none
 | .cells t sz=>match st.s t with
  | .var ks=>gO (ks.length=sz) (some (.agg ks))
  | _=>none
theorem b67 {r:RV} {v:ResultVar} {k:AV} (h:r.ok P N v=true) (hk:b5c r st=some k):a9r P N st v=some k:=by
 cases r with
 | tmp t=>
  cases v<;>simp only [RV.ok,Bool.and_eq_true,beq_iff_eq,decide_eq_true_eq,Bool.false_eq_true] at h
  obtain ⟨rfl,h⟩:=h
  simp only [b5c] at hk
  simp only [a9r,h,decide_true,Bool.true_and]
  exact hk
 | cell t=>
  cases v<;>simp only [RV.ok,Bool.and_eq_true,beq_iff_eq,decide_eq_true_eq,Bool.false_eq_true] at h
  obtain ⟨⟨rfl,h1⟩,h2⟩:=h
  simp only [b5c] at hk
  simp only [a9r,h1,if_true]
  split at hk
  ·rename_i k' hs
   rw [hs]
   simp only [h2]
   exact hk
  ·cases hk
 | cells t sz=>
  cases v<;>simp only [RV.ok,Bool.and_eq_true,beq_iff_eq,decide_eq_true_eq,Bool.false_eq_true] at h
  obtain ⟨⟨⟨rfl,h1⟩,h2⟩,h3⟩:=h
  simp only [b5c] at hk
  simp only [a9r,h1,if_true]
  split at hk
  ·rename_i ks hs
   simp only [gO] at hk
   split at hk
   ·rename_i hl
    rw [hs]
    simp only [h2,hl,h3,if_true]
    exact hk
   ·cases hk
  ·cases hk
def rvL:List RV->St->Option (List AV)
 | [],_=>some []
 | r::rs,st=>match b5c r st,rvL rs st with
  | some k,some ks=>some (k::ks)
  | _,_=>none
def b5d (P:Program) (N:Nat):List RV->List ResultVar->Bool
 | [],[]=>true
 | r::rs,v::vs=>r.ok P N v&&b5d P N rs vs
 | _,_=>false
theorem b05:∀ {rs:List RV} {vs:List ResultVar} {ks:List AV},b5d P N rs vs=true->rvL rs st=some ks->c3w P N st vs=some ks
 | [],[],ks,_,hk=>hk
 | [],_::_,ks,h,_=>by cases h
 | _::_,[],ks,h,_=>by cases h
 | r::rs,v::vs,ks,h,hk=>by
  simp only [b5d,Bool.and_eq_true] at h
  simp only [rvL] at hk
  split at hk
  ·rename_i k ks' h1 h2
   simp only [c3w,b67 h.1 h1,b05 h.2 h2]
   exact hk
  ·cases hk
def c9m (rs:List RV) (st:St):Option AV:=match rvL rs st with
 | some [k]=>some k
 | some ks=>some (.tup ks)
 | none=>none
def c40 (rs:List RV) (res:AV):Exit->St->Prop
 | .normal,st | .ret,st=>c9m rs st=some res
 | _,_=>False
@[congr] theorem c7r {rs:List RV} {res:AV} {e:Exit} {st':St} (h2:st=st'):c40 rs res e st=c40 rs res e st':=by rw [h2]
def rv1 (r:RV) (v:AV):Option AV:=match r with
 | .tmp t=>if noRef v then some v else none
 | .cell t=>match v with
  | .var [k]=>some k
  | _=>none
 | .cells t sz=>match v with
  | .var ks=>gO (ks.length=sz) (some (.agg ks))
  | _=>none
def avs (a:Option AV) (l:Option (List AV)):Option (List AV):=match a,l with
 | some k,some ks=>some (k::ks)
 | _,_=>none
def c6b (l:Option (List AV)):Option AV:=match l with
 | some [k]=>some k
 | some ks=>some (.tup ks)
 | none=>none
@[go_sem] theorem f1u {k:AV}:c6b (some [k])=some k:=(rfl)
@[go_sem] theorem f1t:c6b (some [])=some (.tup []):=(rfl)
@[go_sem] theorem f1v {a b:AV} {ks:List AV}:c6b (some (a::b::ks))=some (.tup (a::b::ks)):=(rfl)
@[go_sem] theorem d7r {k:AV} {ks:List AV}:avs (some k) (some ks)=some (k::ks):=(rfl)
@[go_sem] theorem e65 {t:Nat} {v:AV}:rv1 (.tmp t) v=if noRef v then some v else none:=(rfl)
@[go_sem] theorem e1g {t:Nat} {k:AV}:rv1 (.cell t) (.var [k])=some k:=(rfl)
@[go_sem] theorem d6c {t sz:Nat} {ks:List AV}:rv1 (.cells t sz) (.var ks)=gO (ks.length=sz) (some (.agg ks)):=(rfl)
@[go_sem] theorem e66:rvL [] st=some []:=(rfl)
@[go_sem] theorem e67 {t:Nat} {rs:List RV}:rvL (.tmp t::rs) st=avs (rv1 (.tmp t) (st.s t)) (rvL rs st):=by
 simp only [rvL,avs,b5c,rv1]
@[go_sem] theorem e1h {t:Nat} {rs:List RV}:rvL (.cell t::rs) st=avs (rv1 (.cell t) (st.s t)) (rvL rs st):=by
 simp only [rvL,avs,b5c,rv1]
@[go_sem] theorem d6d {t sz:Nat} {rs:List RV}:rvL (.cells t sz::rs) st=avs (rv1 (.cells t sz) (st.s t)) (rvL rs st):=by
 simp only [rvL,avs,b5c,rv1]
@[go_sem] theorem e9i {rs:List RV} {res:AV}:c40 rs res .normal st=(c6b (rvL rs st)=some res):=(rfl)
@[go_sem] theorem e9j {rs:List RV} {res:AV}:c40 rs res .ret st=(c6b (rvL rs st)=some res):=(rfl)
theorem b8g {rs:List RV} {vs:List ResultVar} {res:AV} (h:b5d P N rs vs=true):∀ e st,c40 rs res e st->c7p P N vs res e st:=by
 intro e st hq
 have key:c9m rs st=some res->b0t P N st vs=some res:=by
  intro hk
  unfold c9m at hk
  cases hl:rvL rs st with
  | none=>rw [hl] at hk; cases hk
  | some ks=>
   rw [hl] at hk
   simp only [b0t,b05 h hl]
   exact hk
 cases e<;>first | exact key hq | exact hq
end
theorem ACalls.of_walk {P:Program} {G:GG} {f:FuncId} {fn:Func} {c:Code} {N:Nat} {vs:List ResultVar} {rs:List RV} {ic:IC} (hord:P.follows .mixedOrders=true) (hf:P.funcs[f]? =some fn) (hb:fn.body=some c) (hN:fn.ntmps=N) (hrs:fn.results.toList=vs) (hnd:(vs.map rvT).Nodup)
  (he:a7q c=ic.ec) (hok:ic.ok P N=true) (hr:b5d P N rs vs=true) {pre:List AV} {res:AV} (hsz:pre.length<=N) (h:AW P G N ic (c40 rs res) (St.init pre)):ACalls P G f pre res:=
 b1p hf hb hN hrs hnd hsz ((b7g hord ic c _ _ he hok (IC.pin_nil ic) h).mono (b8g hr))
section
variable {k:IntKind} {a b:Int}
theorem a3e {b:BinOp} {k:IntKind} {x y:Int} {v:Value} (h:a1f b (.int k x) (.int k y)=some v) {kd:Nat} (hk:kd=0):a2e b kd (.lit (.int k x)) (.lit (.int k y))=some (.lit v):=by
 subst hk; simp [a2e,b6q,h]
theorem c39:a1f .add (.int k a) (.int k b)=some (.int k (k.wrap (a+b))):=by simp [a1f,Op.intArith]; rfl
theorem c4k:a1f .sub (.int k a) (.int k b)=some (.int k (k.wrap (a - b))):=by simp [a1f,Op.intArith]; rfl
theorem c4f:a1f .mul (.int k a) (.int k b)=some (.int k (k.wrap (a*b))):=by simp [a1f,Op.intArith]; rfl
theorem c4a:a1f .eql (.int k a) (.int k b)=some (.bool (a==b)):=by simp [a1f,Op.intCmp]; rfl
theorem c4g:a1f .neq (.int k a) (.int k b)=some (.bool (a != b)):=by simp [a1f,Op.intCmp]; rfl
theorem c4e:a1f .lss (.int k a) (.int k b)=some (.bool (decide (a < b))):=by simp [a1f,Op.intCmp]; rfl
theorem c4d:a1f .leq (.int k a) (.int k b)=some (.bool (decide (a<=b))):=by simp [a1f,Op.intCmp]; rfl
theorem c4c:a1f .gtr (.int k a) (.int k b)=some (.bool (decide (a > b))):=by simp [a1f,Op.intCmp]; rfl
theorem c4b:a1f .geq (.int k a) (.int k b)=some (.bool (decide (a ≥ b))):=by simp [a1f,Op.intCmp]; rfl
@[go_sem] theorem e8b:a2e .add 0 (.lit (.int k a)) (.lit (.int k b))=some (.lit (.int k (k.wrap (a+b)))):=a3e c39 rfl
@[go_sem] theorem e8m:a2e .sub 0 (.lit (.int k a)) (.lit (.int k b))=some (.lit (.int k (k.wrap (a - b)))):=a3e c4k rfl
@[go_sem] theorem e8h:a2e .mul 0 (.lit (.int k a)) (.lit (.int k b))=some (.lit (.int k (k.wrap (a*b)))):=a3e c4f rfl
@[go_sem] theorem e8c:a2e .eql 0 (.lit (.int k a)) (.lit (.int k b))=some (.lit (.bool (decide (a=b)))):=by
 rw [a3e c4a rfl]; simp only [Option.some.injEq,AV.lit.injEq,Value.bool.injEq]; by_cases h:a=b<;>simp [h]
@[go_sem] theorem e8i:a2e .neq 0 (.lit (.int k a)) (.lit (.int k b))=some (.lit (.bool (!decide (a=b)))):=by
 rw [a3e c4g rfl]; simp only [Option.some.injEq,AV.lit.injEq,Value.bool.injEq]; by_cases h:a=b<;>simp [h]
@[go_sem] theorem e8g:a2e .lss 0 (.lit (.int k a)) (.lit (.int k b))=some (.lit (.bool (decide (a < b)))):=a3e c4e rfl
@[go_sem] theorem e8f:a2e .leq 0 (.lit (.int k a)) (.lit (.int k b))=some (.lit (.bool (decide (a<=b)))):=a3e c4d rfl
@[go_sem] theorem e8e:a2e .gtr 0 (.lit (.int k a)) (.lit (.int k b))=some (.lit (.bool (decide (b < a)))):=a3e c4c rfl
@[go_sem] theorem e8d:a2e .geq 0 (.lit (.int k a)) (.lit (.int k b))=some (.lit (.bool (decide (b<=a)))):=a3e c4b rfl
end
section
variable {a b:Bool}
@[go_sem] theorem e2d:a2e .eql 1 (.lit (.bool a)) (.lit (.bool b))=some (.lit (.bool (decide (a=b)))):=by cases a<;>cases b<;>rfl
@[go_sem] theorem e2e:a2e .neq 1 (.lit (.bool a)) (.lit (.bool b))=some (.lit (.bool (!decide (a=b)))):=by cases a<;>cases b<;>rfl
@[go_sem] theorem d0f:a2e .eql 2 (.lit .nilIface) (.lit .nilIface)=some (.lit (.bool true)):=(rfl)
@[go_sem] theorem d0i:a2e .neq 2 (.lit .nilIface) (.lit .nilIface)=some (.lit (.bool false)):=(rfl)
@[go_sem] theorem d0e {T:TypeId} {v:Value}:a2e .eql 2 (.lit (.iface T v)) (.lit .nilIface)=some (.lit (.bool false)):=(rfl)
@[go_sem] theorem d0h {T:TypeId} {v:Value}:a2e .neq 2 (.lit (.iface T v)) (.lit .nilIface)=some (.lit (.bool true)):=(rfl)
@[go_sem] theorem d0d {T:TypeId} {k:AV}:a2e .eql 2 (.ifc T k) (.lit .nilIface)=some (.lit (.bool false)):=(rfl)
@[go_sem] theorem d0g {T:TypeId} {k:AV}:a2e .neq 2 (.ifc T k) (.lit .nilIface)=some (.lit (.bool true)):=(rfl)
@[go_sem] theorem d0k:a2e .eql 3 (.lit (.pointer none)) (.lit (.pointer none))=some (.lit (.bool true)):=(rfl)
@[go_sem] theorem d0m:a2e .neq 3 (.lit (.pointer none)) (.lit (.pointer none))=some (.lit (.bool false)):=(rfl)
@[go_sem] theorem d0j {ks:List AV} {o:Nat}:a2e .eql 3 (.ip ks o) (.lit (.pointer none))=some (.lit (.bool false)):=(rfl)
@[go_sem] theorem d0l {ks:List AV} {o:Nat}:a2e .neq 3 (.ip ks o) (.lit (.pointer none))=some (.lit (.bool true)):=(rfl)
end
theorem e2y {p:Prop} [Decidable p] (h:p):decide p=true:=decide_eq_true h
theorem e2x {p:Prop} [Decidable p] (h:¬ p):decide p=false:=decide_eq_false h
theorem b5j {n:Int} (h: -9223372036854775808<=n/\n<=9223372036854775807):IntKind.i64.wrap n=n:=by rw [IntKind.wrap_i64]; omega
section
variable {α:Type} {f:α->AV}
theorem c5c [Inhabited α] {xs:List α} {i:Nat} (h:i < xs.length):(xs.map f)[i]? =some (f xs[i]!):=by
 simp [h]
theorem splice_one {β:Type} {l:List β} {o:Nat} {v:β} (h:o < l.length):a0n l o [v]=l.set o v:=by
 simp only [a0n,List.length_cons,List.length_nil]
 rw [List.set_eq_take_append_cons_drop,if_pos h]
 simp
theorem b87 {xs:List α} {o:Nat} {v:AV} (h:o < xs.length):a0n (xs.map f) o [v]=(xs.map f).set o v:=splice_one (by simpa using h)
theorem b3t {xs:List α} {o i:Nat} {v w:AV} (h:o < xs.length):a0n ((xs.map f).set i w) o [v]=((xs.map f).set i w).set o v:=splice_one (by simpa using h)
@[go_sem] theorem c30 {xs:List α}:List.take xs.length (xs.map f)=xs.map f:=List.take_of_length_le (by simp)
end
@[go_sem] theorem c9s {α:Type} {l:List α} {o:Nat}:a0n l o []=l:=by simp [a0n]
@[go_sem] theorem e1p {α:Type} {a x:α} {l xs:List α}:a0n (a::l) 0 (x::xs)=x::a0n l 0 xs:=by simp [a0n]
@[go_sem] theorem e1o {α:Type} {a:α} {l xs:List α} {o:Nat}:a0n (a::l) (o+1) xs=a::a0n l o xs:=by
 simp [a0n,show o+1+xs.length=(o+xs.length)+1 by omega]
@[go_sem] theorem a9h {α:Type} {f:α->AV} {xs:List α} (h:∀ x,a0i (f x)=true):a0j (xs.map f)=true:=by
 induction xs with
 | nil=>rfl
 | cons x xs ih=>simp [a0j,h,ih]
@[go_sem] theorem a9f {α:Type} {f:α->AV} {xs:List α} (h:∀ x,a0v (f x)=true):a01 (xs.map f)=true:=by
 induction xs with
 | nil=>rfl
 | cons x xs ih=>simp [a01,h,ih]
@[go_sem] theorem d8z {α:Type} {f:α->AV} {xs:List α}:a1b (xs.map f)=xs.map fun x=>frz (f x):=by
 induction xs with
 | nil=>rfl
 | cons x xs ih=>simp [a1b,ih]
@[go_sem] theorem f1f {n:Nat} {z:AV}:b1l n [z]=List.replicate n z:=by
 simp only [b1l]; induction n with
 | zero=>rfl
 | succ n ih=>simp [List.replicate_succ,ih]
def iG (v:Option AV):AV:=match v with
 | some v=>v
 | none=> .lit undef
@[go_sem] theorem e4w {v:AV}:iG (some v)=v:=(rfl)
@[go_sem] theorem e4v:iG none= .lit undef:=(rfl)
@[go_sem] theorem e69 {pre:List AV} {t:Nat}:(St.init pre).s t=iG pre[t]? :=by
 simp only [St.init,iG]; cases pre[t]? <;>rfl
@[go_sem] theorem e1j {pre:List AV} {t:Nat}:(St.init pre).ep t=0:=(rfl)
attribute [go_sem] List.getElem?_cons_zero List.getElem?_cons_succ List.getElem?_nil List.map_nil List.map_cons List.length_cons List.length_nil Nat.zero_add Nat.add_zero Nat.mul_one Nat.mul_zero Nat.zero_mul List.set_cons_zero List.set_cons_succ List.append_nil List.nil_append List.cons_append List.drop_zero List.take_zero List.drop_succ_cons List.take_succ_cons List.take_nil List.drop_nil Int.toNat_natCast List.length_map List.isEmpty_nil List.isEmpty_cons beq_self_eq_true Option.map_some Option.map_none decide_true decide_false and_true true_and Bool.true_or Bool.or_true Bool.false_or Bool.or_false List.take_length List.length_replicate List.map_map Function.comp_def Option.some.injEq
section
variable {P:Program} {G:GG} {N:Nat}
theorem a03 {Q:Exit->St->Prop} {st:St} {a:IC} (ι:Type) (I:ι->St->Prop) (μ:ι->Nat) (i0:ι) (h0:I i0 st) (h:∀ i st K,I i st->(∀ i' st',I i' st'->μ i' < μ i->K st')->AW P G N a (b1e K Q) st):AW P G N (.loop a) Q st:=
 ⟨ι,I,μ,i0,h0,fun i st hi=>h i st _ hi fun i' st' h1 h2=>⟨i',h1,h2⟩⟩
section
variable {kl:Nat->List Nat->Bool} {v:Value} {n sz o e t lo f T:Nat} {q:List Nat} {ks a b:List AV} {k:AV}
@[go_sem] theorem c79:a0x kl .dead= .dead:=by simp only [a0x]
@[go_sem] theorem d3b:a0x kl (.lit v)= .lit v:=by simp only [a0x]
@[go_sem] theorem d9d:a0x kl (.sl n ks)= .sl n ks:=by simp only [a0x]
@[go_sem] theorem d9c:a0x kl (.ip ks o)= .ip ks o:=by simp only [a0x]
@[go_sem] theorem d3c:a0x kl (.own sz n ks)= .own sz n ks:=by simp only [a0x]
@[go_sem] theorem d3f:a0x kl (.var ks)= .var ks:=by simp only [a0x]
@[go_sem] theorem d28:a0x kl (.agg ks)= .agg ks:=by simp only [a0x]
@[go_sem] theorem d3e:a0x kl (.tup ks)= .tup ks:=by simp only [a0x]
@[go_sem] theorem d3a:a0x kl (.ifc T k)= .ifc T k:=by simp only [a0x]
@[go_sem] theorem d9b:a0x kl (.fn f a b)= .fn f (a92 kl a) (a92 kl b):=by simp only [a0x]
@[go_sem] theorem d3d:a0x kl (.ref t q o e)=if kl t q then .dead else .ref t q o e:=by simp only [a0x]
@[go_sem] theorem d29:a0x kl (.bor t q lo n e)=if kl t q then .dead else .bor t q lo n e:=by simp only [a0x]
@[go_sem] theorem d4u:a0i (.lit v)=true:=by simp only [a0i]
@[go_sem] theorem d98:a0i (.sl n ks)=true:=by simp only [a0i]
@[go_sem] theorem d97:a0i (.ip ks o)=true:=by simp only [a0i]
@[go_sem] theorem d96:a0i (.fn f a b)=true:=by simp only [a0i]
@[go_sem] theorem d4w:a0i (.ref t q o e)=true:=by simp only [a0i]
@[go_sem] theorem d4s:a0i (.bor t q lo n e)=true:=by simp only [a0i]
@[go_sem] theorem e39:frz (.lit v)= .lit v:=by simp only [frz]
@[go_sem] theorem e9t:frz (.sl n ks)= .sl n ks:=by simp only [frz]
@[go_sem] theorem e9s:frz (.ip ks o)= .ip ks o:=by simp only [frz]
@[go_sem] theorem e9r:frz (.fn f a b)= .fn f a b:=by simp only [frz]
@[go_sem] theorem d4k:a0v (.lit v)=true:=by simp only [a0v]
@[go_sem] theorem c8p:a0v .dead=true:=by simp only [a0v]
@[go_sem] theorem d4v:a0i (.own sz n ks)=false:=by simp only [a0i]
@[go_sem] theorem d4y:a0i (.var ks)=false:=by simp only [a0i]
@[go_sem] theorem d4r:a0i (.agg ks)=a0j ks:=by simp only [a0i]
@[go_sem] theorem d4x:a0i (.tup ks)=a0j ks:=by simp only [a0i]
@[go_sem] theorem d4t:a0i (.ifc T k)=a0i k:=by simp only [a0i]
@[go_sem] theorem e4a:frz (.own sz n ks)= .sl n (a1b ks):=by simp only [frz]
@[go_sem] theorem e4c:frz (.var ks)= .ip (a1b ks) 0:=by simp only [frz]
@[go_sem] theorem e37:frz (.agg ks)= .agg (a1b ks):=by simp only [frz]
@[go_sem] theorem e4b:frz (.tup ks)= .tup (a1b ks):=by simp only [frz]
@[go_sem] theorem e38:frz (.ifc T k)= .ifc T (frz k):=by simp only [frz]
@[go_sem] theorem d95:a0v (.sl n ks)=ks.isEmpty:=by simp only [a0v]
@[go_sem] theorem d94:a0v (.ip ks o)=false:=by simp only [a0v]
@[go_sem] theorem d4l:a0v (.own sz n ks)=a01 ks:=by simp only [a0v]
@[go_sem] theorem d4n:a0v (.var ks)=a01 ks:=by simp only [a0v]
@[go_sem] theorem d4i:a0v (.agg ks)=a01 ks:=by simp only [a0v]
@[go_sem] theorem d4m:a0v (.tup ks)=a01 ks:=by simp only [a0v]
@[go_sem] theorem d4j:a0v (.ifc T k)=a0v k:=by simp only [a0v]
@[go_sem] theorem d93:a0v (.fn f a b)=(a01 a&&a01 b):=by simp only [a0v]
@[go_sem] theorem d44:noRef (.ref t q o e)=false:=by simp only [noRef]
@[go_sem] theorem d40:noRef (.bor t q lo n e)=false:=by simp only [noRef]
@[go_sem] theorem d99:noRef (.fn f a b)=(a3b.noRefL a&&a3b.noRefL b):=by simp only [noRef]
@[go_sem] theorem d42:noRef (.lit v)=true:=by simp only [noRef]
@[go_sem] theorem e0b:noRef (.sl n ks)=true:=by simp only [noRef]
@[go_sem] theorem e0a:noRef (.ip ks o)=true:=by simp only [noRef]
@[go_sem] theorem d43:noRef (.own sz n ks)=true:=by simp only [noRef]
@[go_sem] theorem d46:noRef (.var ks)=true:=by simp only [noRef]
@[go_sem] theorem d4z:noRef (.agg ks)=true:=by simp only [noRef]
@[go_sem] theorem d45:noRef (.tup ks)=true:=by simp only [noRef]
@[go_sem] theorem d41:noRef (.ifc T k)=true:=by simp only [noRef]
end
attribute [go_sem] e2y e2x d2x b5j c5c b87 b3t List.set_set List.map_append List.length_append List.length_set
end
theorem a3f {N:Nat} {α β:Type}:∀ (x:Ev α) (f:α->Ev β) (st:St) (sw:List Nat),(x >>=f).runF N st sw=(x.runF N st sw).bind fun r=>((f r.a).runF N r.st r.sw).map fun r2=>{ r2 with rd:=r.rd++r2.rd,wr:=r.wr++r2.wr }
 | .ret a,f,st,sw=>by
  show (f a).runF N st sw=_
  simp [Ev.runF]
 | .fail,f,st,sw=>rfl
 | .get t k,f,st,sw=>by
  show (Ev.get t fun v e=>k v e >>=f).runF N st sw=_
  simp only [Ev.runF]
  split
  ·rw [a3f]
   cases (k (st.s t) (st.ep t)).runF N st sw with
   | none=>rfl
   | some r=>simp [Function.comp_def]
  ·rfl
 | .getv t k,f,st,sw=>by
  show (Ev.getv t fun v=>k v >>=f).runF N st sw=_
  simp only [Ev.runF]
  split
  ·rw [a3f]
   cases (k (st.s t)).runF N st sw with
   | none=>rfl
   | some r=>simp [Function.comp_def]
  ·split
   ·rw [a3f]
   ·rfl
 | .put t v k,f,st,sw=>by
  show (Ev.put t v (k >>=f)).runF N st sw=_
  simp only [Ev.runF]
  split
  ·rw [a3f]
   cases k.runF N (st.put t v) sw with
   | none=>rfl
   | some r=>simp [Function.comp_def]
  ·rw [a3f]
 | .upd t v k,f,st,sw=>by
  show (Ev.upd t v (k >>=f)).runF N st sw=_
  simp only [Ev.runF]
  split
  ·rw [a3f]
   cases k.runF N (st.set t v) sw with
   | none=>rfl
   | some r=>simp [Function.comp_def]
  ·rw [a3f]
 | .kill t q o m k,f,st,sw=>by
  show (Ev.kill t q o m (k >>=f)).runF N st sw=_
  simp only [Ev.runF]
  rw [a3f]
  cases k.runF N (st.kill t q o m) sw with
  | none=>rfl
  | some r=>simp [Function.comp_def]
def a1y:AV->Option Nat
 | .ref t _ _ _=>some t
 | .bor t _ _ _ _=>some t
 | .loan ks=>b4t ks
 | _=>none
def FpP (D:Nat->Prop) (N:Nat) {α:Type} (e:Ev α) (st:St) (sw:List Nat) (Post:α->St->List Nat->Prop):Prop:=
 ∀ a st',e.run st=some (a,st')->∃ rd wr sw',e.runF N st sw=some ⟨a,st',rd,wr,sw'⟩/\(∀ t∈rd,D t)/\(∀ t∈wr,D t)/\Post a st' sw'
section
variable {D:Nat->Prop} {N:Nat} {α β:Type} {st:St} {sw:List Nat} {Post:β->St->List Nat->Prop} {f:α->Ev β}
theorem FpP.bindM {x:Ev α} (h:FpP D N x st sw (fun a st' sw'=>FpP D N (f a) st' sw' Post)):FpP D N (x >>=f) st sw Post:=by
 intro a st' hr
 rw [Ev.run_bind] at hr
 cases hx:x.run st with
 | none=>rw [hx] at hr; cases hr
 | some r=>
  obtain ⟨b,st1⟩:=r
  rw [hx] at hr
  obtain ⟨rd,wr,sw1,h1,h2,h3,h4⟩:=h b st1 hx
  obtain ⟨rd2,wr2,sw2,g1,g2,g3,g4⟩:=h4 a st' hr
  refine ⟨rd++rd2,wr++wr2,sw2,?_,?_,?_,g4⟩
  ·rw [a3f,h1]; simp only [Option.bind,g1,Option.map]
  ·intro t ht; rcases List.mem_append.1 ht with ht | ht; exact h2 t ht; exact g2 t ht
  ·intro t ht; rcases List.mem_append.1 ht with ht | ht; exact h3 t ht; exact g3 t ht
theorem FpP.mono {Q:α->St->List Nat->Prop} {P:α->St->List Nat->Prop} {x:Ev α} (h:FpP D N x st sw P) (hpq:∀ a st' sw',P a st' sw'->Q a st' sw'):FpP D N x st sw Q:=by
 intro a st' hr
 obtain ⟨rd,wr,sw1,h1,h2,h3,h4⟩:=h a st' hr
 exact ⟨rd,wr,sw1,h1,h2,h3,hpq _ _ _ h4⟩
theorem FpP.ret {a:α} {P:α->St->List Nat->Prop} (h:P a st sw):FpP D N (Ev.ret a) st sw P:=by
 intro b st' hr
 simp only [Ev.run,Option.some.injEq,Prod.mk.injEq] at hr
 obtain ⟨rfl,rfl⟩:=hr
 exact ⟨[],[],sw,rfl,by simp,by simp,h⟩
theorem FpP.fail {P:α->St->List Nat->Prop}:FpP D N (Ev.fail:Ev α) st sw P:=by
 intro b st' hr; cases hr
theorem FpP.get {t:Nat} {P:(AV×Nat)->St->List Nat->Prop} (hD:D t) (hN:t < N) (h:P (st.s t,st.ep t) st sw):FpP D N (a88 t) st sw P:=by
 intro b st' hr
 rw [a07] at hr
 simp only [Option.some.injEq,Prod.mk.injEq] at hr
 obtain ⟨rfl,rfl⟩:=hr
 exact ⟨[t],[],sw,by simp [a88,Ev.runF,hN],by simpa using hD,by simp,h⟩
theorem FpP.getv {t:Nat} {P:AV->St->List Nat->Prop} (hN:¬ t < N) (hs:t∈sw) (h:P (st.s t) st sw):FpP D N (b6h t) st sw P:=by
 intro b st' hr
 rw [a35] at hr
 simp only [Option.some.injEq,Prod.mk.injEq] at hr
 obtain ⟨rfl,rfl⟩:=hr
 exact ⟨[],[],sw,by simp [b6h,Ev.runF,hN,hs],by simp,by simp,h⟩
theorem FpP.put {t:Nat} {v:AV} {P:Unit->St->List Nat->Prop} (hD:D t) (hN:t < N) (h:P () (st.put t v) sw):FpP D N (a2a t v) st sw P:=by
 intro b st' hr
 rw [a5e] at hr
 simp only [Option.some.injEq,Prod.mk.injEq,true_and] at hr
 subst hr
 exact ⟨[],[t],sw,by simp [a2a,Ev.runF,hN],by simp,by simpa using hD,h⟩
theorem FpP.putN {t:Nat} {v:AV} {P:Unit->St->List Nat->Prop} (hN:¬ t < N) (h:P () (st.put t v) (t::sw)):FpP D N (a2a t v) st sw P:=by
 intro b st' hr
 rw [a5e] at hr
 simp only [Option.some.injEq,Prod.mk.injEq,true_and] at hr
 subst hr
 exact ⟨[],[],t::sw,by simp [a2a,Ev.runF,hN],by simp,by simp,h⟩
theorem FpP.upd {t:Nat} {v:AV} {P:Unit->St->List Nat->Prop} (hD:D t) (hN:t < N) (h:P () (st.set t v) sw):FpP D N (a87 t v) st sw P:=by
 intro b st' hr
 rw [a83] at hr
 simp only [Option.some.injEq,Prod.mk.injEq,true_and] at hr
 subst hr
 exact ⟨[],[t],sw,by simp [a87,Ev.runF,hN],by simp,by simpa using hD,h⟩
theorem FpP.kill {t o m:Nat} {q:List Nat} {P:Unit->St->List Nat->Prop} (hD:∀ u,u < N->D u) (h:P () (st.kill t q o m) sw):FpP D N (b8l t q o m) st sw P:=by
 intro a st' hr
 rw [b49] at hr
 simp only [Option.some.injEq,Prod.mk.injEq,true_and] at hr
 subst hr
 exact ⟨List.range N++[],List.range N++[],sw,rfl,fun u hu=>hD u (by simpa using hu),fun u hu=>hD u (by simpa using hu),h⟩
theorem FpP.guard {b:Bool} {P:Unit->St->List Nat->Prop} (h:b=true->P () st sw):FpP D N (a0f b) st sw P:=by
 cases b
 ·exact FpP.fail
 ·exact FpP.ret (h rfl)
theorem FpP.opt {o:Option α} {P:α->St->List Nat->Prop} (h:∀ a,o=some a->P a st sw):FpP D N (a2r o) st sw P:=by
 cases o
 ·exact FpP.fail
 ·exact FpP.ret (h _ rfl)
structure XO (D:Nat->Prop) (N:Nat) (st:St) (x:X):Prop where
 t:∀ t,x= .t t->D t/\t < N
 b:∀ u,a1y (rdv st x)=some u->D u/\u < N
theorem FpP.read {x:X} {P:(AV×Nat)->St->List Nat->Prop} (hx:XO D N st x) (h:P (rdv st x,rde st x) st sw):FpP D N (a1l x) st sw P:=by
 cases x with
 | t t=>exact FpP.get (hx.t t rfl).1 (hx.t t rfl).2 h
 | _=>exact FpP.ret h
theorem FpP.tmp {x:X} {P:Nat->St->List Nat->Prop} (h:∀ t,x= .t t->P t st sw):FpP D N (a9z x) st sw P:=by
 cases x with
 | t t=>exact FpP.ret (h t rfl)
 | _=>exact FpP.fail
theorem FpP.setD {d:Option Nat} {v:AV} {P:Unit->St->List Nat->Prop} (hd:∀ t,d=some t->D t/\t < N) (h:∀ t,d=some t->P () (st.put t v) sw):FpP D N (setD d v) st sw P:=by
 cases d with
 | none=>exact FpP.fail
 | some t=>exact FpP.put (hd t rfl).1 (hd t rfl).2 (h t rfl)
theorem FpP.thru {d:Option Nat} {v:AV} {M:Nat} {P:Unit->St->List Nat->Prop} (hM:N<=M) (hd:∀ t,d=some t->D t/\t < N) (h:∀ st' sw',P () st' sw'):FpP D N (a26 M d v) st sw P:=
 FpP.bindM (FpP.putN (Nat.not_lt.2 hM) (FpP.bindM (FpP.putN (Nat.not_lt.2 hM) (FpP.setD hd fun _ _=>h _ _))))
end
abbrev tt {α:Type}:α->St->List Nat->Prop:=fun _ _ _=>True
section
variable {D:Nat->Prop} {N:Nat} {st:St} {sw:List Nat} {d:Option Nat} {x y:X} {G:GG}
abbrev DD (D:Nat->Prop) (N:Nat) (d:Option Nat):Prop:=∀ t,d=some t->D t/\t < N
theorem d2r (hx:XO D N st x) (hd:DD D N d):FpP D N (mvE x d) st sw tt:=by
 refine FpP.bindM (FpP.read hx ?_)
 cases hv:rdv st x<;>simp only
 case own=>cases x<;>exact FpP.setD hd fun _ _=>trivial
 case var=>exact FpP.bindM (FpP.tmp fun t ht=>FpP.setD hd fun _ _=>trivial)
 case dead=>exact FpP.fail
 all_goals (split<;>first | exact FpP.setD hd fun _ _=>trivial | exact FpP.bindM (FpP.tmp fun t ht=>FpP.bindM (FpP.upd (hx.t t ht).1 (hx.t t ht).2 (FpP.setD hd fun _ _=>trivial))))
theorem c3p (hx:XO D N st x) (hd:DD D N d):FpP D N (c6l N x d) st sw tt:=by
 have tail:∀ v:AV,FpP D N (a6z N d x v) st sw tt:=by
  intro v
  unfold a6z
  cases x with
  | t t=>simp only; split; exact FpP.setD hd fun _ _=>trivial; exact FpP.bindM (FpP.put (hx.t t rfl).1 (hx.t t rfl).2 (FpP.thru (Nat.le_refl _) hd fun _ _=>trivial))
  | _=>simp only; split; exact FpP.setD hd fun _ _=>trivial; exact FpP.thru (Nat.le_refl _) hd fun _ _=>trivial
 refine FpP.bindM (FpP.read hx ?_)
 cases hv:rdv st x<;>simp only
 case dead=>exact FpP.fail
 case bor t q lo n e=>
  have hb:=hx.b t (by rw [hv]; rfl)
  refine FpP.bindM (FpP.get hb.1 hb.2 (FpP.bindM (FpP.guard fun _=>FpP.bindM (FpP.opt fun k hk=> ?_))))
  cases k<;>simp only<;>try exact FpP.fail
  refine FpP.bindM (FpP.guard fun _=> ?_)
  split
  ·exact FpP.bindM (FpP.put hb.1 hb.2 (FpP.thru (Nat.le_refl _) hd fun _ _=>trivial))
  ·exact FpP.bindM (FpP.upd hb.1 hb.2 (FpP.setD hd fun _ _=>trivial))
 all_goals exact tail _
theorem a7v {P:Value->St->List Nat->Prop} (hx:XO D N st x) (h:∀ v,P v st sw):FpP D N (b3y x) st sw P:=by
 refine FpP.bindM (FpP.read hx ?_)
 cases hv:rdv st x<;>simp only<;>first | exact FpP.ret (h _) | exact FpP.fail
theorem b7s {P:Int->St->List Nat->Prop} (hx:XO D N st x) (h:∀ v,P v st sw):FpP D N (b8k x) st sw P:=by
 refine FpP.bindM (a7v hx fun v=> ?_)
 cases v<;>simp only<;>first | exact FpP.ret (h _) | exact FpP.fail
theorem a5r {x:Option X} {z:Int} {P:Int->St->List Nat->Prop} (hx:∀ y,x=some y->XO D N st y) (h:∀ v,P v st sw):FpP D N (a2i x z) st sw P:=by
 cases x with
 | none=>exact FpP.ret (h _)
 | some x=>exact b7s (hx x rfl) h
theorem b96 {P:(Nat×List Nat×Nat×Nat)->St->List Nat->Prop} (hx:XO D N st x) (h:∀ t q lo n,D t->t < N->P (t,q,lo,n) st sw):FpP D N (a5q x) st sw P:=by
 refine FpP.bindM (FpP.read hx ?_)
 cases hv:rdv st x<;>simp only<;>try exact FpP.fail
 ·exact FpP.bindM (FpP.tmp fun t ht=>FpP.ret (h _ _ _ _ (hx.t t ht).1 (hx.t t ht).2))
 ·rename_i t q lo n e
  have hb:=hx.b t (by rw [hv]; rfl)
  exact FpP.bindM (FpP.get hb.1 hb.2 (FpP.bindM (FpP.guard fun _=>FpP.ret (h _ _ _ _ hb.1 hb.2))))
theorem d2t {P:(Nat×List Nat×Nat)->St->List Nat->Prop} (hx:XO D N st x) (h:∀ t q o,D t->t < N->P (t,q,o) st sw):FpP D N (b53 x) st sw P:=by
 refine FpP.bindM (FpP.read hx ?_)
 cases hv:rdv st x<;>simp only<;>try exact FpP.fail
 ·exact FpP.bindM (FpP.tmp fun t ht=>FpP.ret (h _ _ _ (hx.t t ht).1 (hx.t t ht).2))
 ·rename_i t q lo e
  have hb:=hx.b t (by rw [hv]; rfl)
  exact FpP.bindM (FpP.get hb.1 hb.2 (FpP.bindM (FpP.guard fun _=>FpP.ret (h _ _ _ hb.1 hb.2))))
theorem b0k {P:(Nat×List Nat×Nat×AV×Nat×List AV)->St->List Nat->Prop} (hx:XO D N st x) (h:∀ t q o v e ks,D t->t < N->P (t,q,o,v,e,ks) st sw):FpP D N (b83 x) st sw P:=
 FpP.bindM (d2t hx fun t q o hD hN=>FpP.bindM (FpP.get hD hN (FpP.bindM (FpP.opt fun ks _=>FpP.bindM (FpP.guard fun _=>FpP.ret (h _ _ _ _ _ _ hD hN))))))
theorem c2a {t:Nat} {q:List Nat} {P:AV->St->List Nat->Prop} (hD:D t) (hN:t < N) (h:∀ k,P k st sw):FpP D N (c0r t q) st sw P:=
 FpP.bindM (FpP.get hD hN (FpP.opt fun _ _=>h _))
theorem c47 {s:Option Nat} (hx:XO D N st x) (hd:DD D N d):FpP D N (b4s d s x) st sw tt:=by
 refine FpP.bindM (b0k hx fun t q o v e ks hD hN=> ?_)
 cases s with
 | none=>
  refine FpP.bindM (FpP.opt fun k _=> ?_)
  cases k<;>simp only [a8p]<;>first | exact FpP.setD hd fun _ _=>trivial | exact FpP.bindM (FpP.guard fun _=>FpP.setD hd fun _ _=>trivial)
 | some s=>
  refine FpP.bindM (FpP.guard fun _=> ?_)
  split
  ·exact FpP.setD hd fun _ _=>trivial
  ·exact FpP.bindM (FpP.upd hD hN (FpP.setD hd fun _ _=>trivial))
end
def BLe (N:Nat) (st st':St):Prop:=∀ t,t < N->a1y (st'.s t)=none\/a1y (st'.s t)=a1y (st.s t)
theorem BLe.refl {N:Nat} (st:St):BLe N st st:=fun t _=> .inr rfl
theorem BLe.trans {N:Nat} {a b c:St} (h:BLe N a b) (h2:BLe N b c):BLe N a c:=fun t ht=>by
 rcases h2 t ht with h3 | h3
 ·exact .inl h3
 ·rcases h t ht with h4 | h4
  ·exact .inl (h3.trans h4)
  ·exact .inr (h3.trans h4)
theorem BLe.put {N:Nat} {st:St} {t:Nat} {v:AV} (h:a1y v=none):BLe N st (st.put t v):=fun u _=>by
 simp only [St.put_s]; split
 ·exact .inl h
 ·exact .inr rfl
theorem BLe.putN {N:Nat} {st:St} {t:Nat} {v:AV} (h:¬ t < N):BLe N st (st.put t v):=fun u hu=>by
 simp only [St.put_s]; rw [if_neg (by omega)]; exact .inr rfl
theorem BLe.set {N:Nat} {st:St} {t:Nat} {v:AV} (h:a1y v=none):BLe N st (st.set t v):=fun u _=>by
 simp only [St.set_s]; split
 ·exact .inl h
 ·exact .inr rfl
theorem XO.le {D:Nat->Prop} {N:Nat} {st st':St} {x:X} (h:XO D N st x) (hl:BLe N st st'):XO D N st' x where
 t:=h.t
 b u hu:=by
  cases x with
  | t t=>
   have ht:=h.t t rfl
   simp only [rdv] at hu
   rcases hl t ht.2 with h1 | h1
   ·rw [h1] at hu; cases hu
   ·exact h.b u (by simp only [rdv]; rw [<-h1]; exact hu)
  | _=>cases hu
theorem a30 {v k:AV} {q:List Nat} {k':AV} (hk:a0c v q=some k) (h:a1y k'=none):a1y (a0h v q k')=none:=by
 cases q with
 | nil=>exact h
 | cons i q=>
  cases v<;>simp only [a0c,a0l,reduceCtorEq] at hk
  ·simp only [a0h,a0l]; split<;>rfl
  ·simp only [a0h,a0l]; split<;>rfl
section
variable {D:Nat->Prop} {N:Nat} {st:St} {sw:List Nat} {d:Option Nat} {x y:X} {G:GG}
theorem b6e {P:Unit->St->List Nat->Prop} (hx:XO D N st x) (h:∀ st' sw',BLe N st st'->(∀ t∈sw,t∈sw')->N∈sw'->(∀ t,N < t->st'.s t=st.s t)->P () st' sw'):FpP D N (a3b x N) st sw P:=by
 have hN:¬ N < N:=Nat.lt_irrefl _
 have one:∀ {v:AV},a1y (AV.dead)=none->FpP D N (a2a N v) st sw P:=fun _=>FpP.putN hN (h _ _ (BLe.putN hN) (fun t ht=>by simp [ht]) (by simp) (fun t ht=>by simp [Nat.ne_of_gt ht]))
 have two:∀ {v:AV} (t:Nat),x= .t t->FpP D N (do a2a t .dead; a2a N v) st sw P:=fun t ht=>FpP.bindM (FpP.put (hx.t t ht).1 (hx.t t ht).2 (FpP.putN hN (h _ _ ((BLe.put rfl).trans (BLe.putN hN)) (fun t ht=>by simp [ht]) (by simp) (fun u hu=>by
  have:=(hx.t t ht).2
  simp [Nat.ne_of_gt hu,show u≠t by omega]))))
 refine FpP.bindM (FpP.read hx ?_)
 cases hv:rdv st x<;>simp only
 case dead=>exact FpP.fail
 case tup=>exact FpP.fail
 case ref=>exact FpP.fail
 case bor t q lo n e=>
  have hb:=hx.b t (by rw [hv]; rfl)
  refine FpP.bindM (FpP.get hb.1 hb.2 (FpP.bindM (FpP.guard fun _=>FpP.bindM (FpP.opt fun k hk=> ?_))))
  cases k<;>simp only<;>try exact FpP.fail
  refine FpP.bindM (FpP.guard fun _=>FpP.bindM (FpP.upd hb.1 hb.2 (FpP.putN hN (h _ _ ((BLe.set (a30 hk rfl)).trans (BLe.putN hN)) (fun t ht=>by simp [ht]) (by simp) (fun u hu=>by
   have:=hb.2
   simp [Nat.ne_of_gt hu,show u≠t by omega])))))
 case agg=>exact FpP.bindM (FpP.tmp fun t ht=>two t ht)
 case own=>
  cases x with
  | t t=>exact two t rfl
  | _=>exact one rfl
 case var=>exact FpP.bindM (FpP.tmp fun t ht=>two t ht)
 case ifc=>exact FpP.bindM (FpP.tmp fun t ht=>two t ht)
 case mp=>exact FpP.bindM (FpP.tmp fun t ht=>two t ht)
 case fn=>exact FpP.bindM (FpP.guard fun _=>one rfl)
 all_goals exact FpP.bindM (FpP.guard fun _=>one rfl)
theorem b4o {j:Nat} {P:List AV->St->List Nat->Prop} (hN:¬ j < N) (hs:j∈sw) (h:∀ ks,P ks st sw):FpP D N (b5l j) st sw P:=by
 refine FpP.bindM (FpP.getv hN hs ?_)
 cases st.s j<;>simp only<;>first | exact FpP.ret (h _) | exact FpP.fail
theorem d2l {T:TypeId} {sz:Nat} (hx:XO D N st x) (hd:DD D N d):FpP D N (a0w G N d (.box T sz x)) st sw tt:=by
 have hN:¬ N < N:=Nat.lt_irrefl _
 exact FpP.bindM (b6e hx fun st' sw' _ _ hs _=>FpP.bindM (b4o hN hs fun ks=>FpP.bindM (FpP.guard fun _=>FpP.thru (Nat.le_refl _) hd fun _ _=>trivial)))
theorem b3a:∀ (l:List (Nat×Nat×X)) {st:St} {sw:List Nat} {P:Unit->St->List Nat->Prop},(∀ p∈l,XO D N st p.2.2)->(N+1)∈sw->(∀ st' sw',(N+1)∈sw'->P () st' sw')->FpP D N (a5v N l) st sw P
 | [],st,sw,P,_,hs,h=>FpP.ret (h _ _ hs)
 | (off,sz,x)::rest,st,sw,P,hx,hs,h=>by
  have hN:¬ N < N:=Nat.lt_irrefl _
  have hN1:¬ N+1 < N:=by omega
  refine FpP.bindM (b6e (hx (off,sz,x) (by simp)) fun st1 sw1 hb hsw hNs _=>FpP.bindM (b4o hN hNs fun ks=>FpP.bindM (b4o hN1 (hsw _ hs) fun zs=>FpP.bindM (FpP.guard fun _=>FpP.bindM (FpP.putN hN (FpP.bindM (FpP.putN hN1 ?_)))))))
  exact b3a rest (fun p hp=>(hx p (by simp [hp])).le (hb.trans ((BLe.put rfl).trans (BLe.putN hN1)))) (by simp) h
theorem c12 {T:TypeId} {zs:List AV} {parts:List (Nat×Nat×Nat×X)} (hx:∀ p∈parts,XO D N st p.2.2.2) (hd:DD D N d):FpP D N (a0w G N d (.build T zs parts)) st sw tt:=by
 have hN1:¬ N+1 < N:=by omega
 refine FpP.bindM (FpP.putN hN1 (FpP.bindM (b3a _ (fun p hp=> ?_) (by simp) fun st' sw' hs=>FpP.bindM (b4o hN1 hs fun ks=>FpP.bindM (FpP.putN hN1 (FpP.setD hd fun _ _=>trivial))))))
 obtain ⟨r,hr,rfl⟩:=List.mem_map.1 hp
 exact (hx r hr).le (BLe.putN hN1)
theorem b97 {T e:TypeId} {sz len:Nat} {zs:List AV} {parts:List (Nat×X)} (hx:∀ p∈parts,XO D N st p.2) (hd:DD D N d):FpP D N (a0w G N d (.bslice T e sz len zs parts)) st sw tt:=by
 have hN1:¬ N+1 < N:=by omega
 refine FpP.bindM (FpP.putN hN1 (FpP.bindM (b3a _ (fun p hp=> ?_) (by simp) fun st' sw' hs=>FpP.bindM (b4o hN1 hs fun ks=>FpP.thru (by omega) hd fun _ _=>trivial))))
 obtain ⟨r,hr,rfl⟩:=List.mem_map.1 hp
 exact (hx r hr).le (BLe.putN hN1)
theorem c2d {T:TypeId} {s:Nat} (hx:XO D N st x) (hy:XO D N st y) (hd:d=none) (hk:∀ r,giv st N y (rdv st y)=some r->a0j r.2=true\/∀ t,t < N->D t):FpP D N (a0w G N d (.store T s x y)) st sw tt:=by
 have hN:¬ N < N:=Nat.lt_irrefl _
 refine FpP.bindM (FpP.guard fun _=> ?_)
 have hg:FpP D N (a3b y N) st sw (fun _ st' sw'=>(BLe N st st'/\N∈sw')/\∃ r,giv st N y (rdv st y)=some r/\st'.s N= .agg r.2):=by
  intro a st' hr
  obtain ⟨rd,wr,sw',h1,h2,h3,h4⟩:=b6e (P:=fun _ st' sw'=>BLe N st st'/\N∈sw') (sw:=sw) hy (fun st' sw' h1 _ h2 _=>⟨h1,h2⟩) a st' hr
  refine ⟨rd,wr,sw',h1,h2,h3,h4,?_⟩
  rw [a80] at hr
  cases hgv:giv st N y (rdv st y) with
  | none=>rw [hgv] at hr; cases hr
  | some r=>
   rw [hgv] at hr
   simp only [Option.map,Option.some.injEq,Prod.mk.injEq,true_and] at hr
   exact ⟨r,rfl,by rw [<-hr]; simp⟩
 refine FpP.bindM (FpP.mono hg fun a st' sw' ⟨⟨hb,hs⟩,r,hr,hsN⟩=> ?_)
 have hno:=hk r hr
 refine FpP.bindM (FpP.mono (b0k (P:=fun p st2 sw2=>(D p.1/\p.1 < N)/\st2=st'/\sw2=sw') (hx.le hb) fun t q o v e ks hD htN=>⟨⟨hD,htN⟩,rfl,rfl⟩) ?_)
 rintro ⟨t,q,o,v,e,ks⟩ st2 sw2 ⟨⟨hD,htN⟩,rfl,rfl⟩
 refine FpP.bindM (FpP.mono (P:=fun ks2 st3 sw3=>ks2=r.2/\st3=st2/\sw3=sw2) (FpP.bindM (FpP.getv hN hs (by rw [hsN]; exact FpP.ret ⟨rfl,rfl,rfl⟩))) ?_)
 rintro cs st3 sw3 ⟨rfl,rfl,rfl⟩
 refine FpP.bindM (FpP.guard fun _=>FpP.bindM (FpP.putN hN ?_))
 rcases hno with hno | hall
 ·rw [if_pos hno]
  exact FpP.upd hD htN trivial
 ·split
  ·exact FpP.upd hD htN trivial
  ·exact FpP.bindM (FpP.kill hall (FpP.upd hD htN trivial))
theorem c19 (hx:XO D N st x) (hd:DD D N d):FpP D N (a0w G N d (.nilck x)) st sw tt:=by
 refine FpP.bindM (FpP.read hx ?_)
 cases hv:rdv st x<;>simp only<;>first | exact FpP.setD hd fun _ _=>trivial | exact FpP.bindM (b0k hx fun _ _ _ _ _ _ _ _=>FpP.setD hd fun _ _=>trivial)
theorem c14 {T:TypeId} {off f:Nat} (hx:XO D N st x) (hd:DD D N d):FpP D N (a0w G N d (.faddr T off x f)) st sw tt:=by
 refine FpP.bindM (FpP.read hx ?_)
 cases hv:rdv st x<;>simp only<;>first | exact FpP.setD hd fun _ _=>trivial | exact FpP.bindM (b0k hx fun _ _ _ _ _ _ _ _=>FpP.setD hd fun _ _=>trivial)
theorem c10 {T:TypeId} {off f:Nat} (hx:XO D N st x) (hd:DD D N d):FpP D N (a0w G N d (.aaddr T off x f)) st sw tt:=by
 refine FpP.bindM (FpP.read hx ?_)
 cases hv:rdv st x<;>simp only<;>first | exact FpP.setD hd fun _ _=>trivial | exact FpP.bindM (b0k hx fun _ _ _ _ _ _ _ _=>FpP.setD hd fun _ _=>trivial)
theorem b98 {T:TypeId} {s:Option Nat} (hx:XO D N st x) (hd:DD D N d):FpP D N (a0w G N d (.load T s x)) st sw tt:=by
 refine FpP.bindM (FpP.read hx ?_)
 simp only
 split
 ·exact FpP.bindM (FpP.opt fun _ _=>FpP.setD hd fun _ _=>trivial)
 ·exact FpP.bindM (FpP.opt fun _ _=>FpP.bindM (FpP.guard fun _=>FpP.setD hd fun _ _=>trivial))
 ·exact FpP.bindM (FpP.guard fun _=>FpP.setD hd fun _ _=>trivial)
 ·exact c47 hx hd
theorem c16 {T:TypeId} {sz:Nat} {i:X} (hx:XO D N st x) (hi:XO D N st i) (hd:DD D N d):FpP D N (a0w G N d (.iaddr T sz x i)) st sw tt:=by
 refine FpP.bindM (b7s hi fun n=>FpP.bindM (FpP.guard fun _=>FpP.bindM (FpP.read hx ?_)))
 have rest:FpP D N (do
   let (t,q,lo,m)<-a5q x
   a0f (decide (n < (m:Int)))
   let v<-a88 t
   let k<-a2r (a0c v.1 q)
   match k with
   | .own sz' n0 _=>do
    a0f (sz'==sz&&decide (lo+m<=n0))
    setD d (.ref t q ((lo+n.toNat)*sz) v.2)
   | _=> .fail) st sw tt:=by
  refine FpP.bindM (b96 hx fun t q lo m hD hN=>FpP.bindM (FpP.guard fun _=>FpP.bindM (FpP.get hD hN (FpP.bindM (FpP.opt fun k _=> ?_)))))
  cases k<;>simp only<;>first | exact FpP.fail | exact FpP.bindM (FpP.guard fun _=>FpP.setD hd fun _ _=>trivial)
 cases hv:rdv st x<;>simp only<;>first | exact FpP.bindM (FpP.guard fun _=>FpP.setD hd fun _ _=>trivial) | exact rest
theorem c17 {T:TypeId} {b:Bool} (hx:XO D N st x) (hd:DD D N d):FpP D N (a0w G N d (.len T b x)) st sw tt:=by
 cases b with
 | true=>
  refine FpP.bindM (a7v hx fun v=> ?_)
  cases v<;>simp only<;>first | exact FpP.fail | exact FpP.setD hd fun _ _=>trivial
 | false=>
  refine FpP.bindM (FpP.read hx ?_)
  have rest:FpP D N (do
   let (t,q,lo,n)<-a5q x
   let k<-c0r t q
   match k with
   | .own _ n0 _=>do
    a0f (decide (lo+n<=n0))
    setD d (.lit (.int .i64 n))
   | _=> .fail) st sw tt:=by
   refine FpP.bindM (b96 hx fun t q lo m hD hN=>FpP.bindM (c2a hD hN fun k=> ?_))
   cases k<;>simp only<;>first | exact FpP.fail | exact FpP.bindM (FpP.guard fun _=>FpP.setD hd fun _ _=>trivial)
  cases hv:rdv st x<;>simp only<;>first | exact FpP.setD hd fun _ _=>trivial | exact rest
theorem d2k {b:BinOp} {T kd:Nat} {yT:TypeId} (hx:XO D N st x) (hy:XO D N st y) (hd:DD D N d):FpP D N (a0w G N d (.bin b T kd x y yT)) st sw tt:=
 FpP.bindM (FpP.read hx (FpP.bindM (FpP.read hy (FpP.bindM (FpP.opt fun _ _=>FpP.setD hd fun _ _=>trivial)))))
theorem e31 {u:UnOp} {T:TypeId} (hx:XO D N st x) (hd:DD D N d):FpP D N (a0w G N d (.un u T x)) st sw tt:=
 FpP.bindM (a7v hx fun _=>FpP.bindM (FpP.opt fun _ _=>FpP.setD hd fun _ _=>trivial))
theorem c5a {c:X} (hc:XO D N st c) (hx:XO D N st x) (hy:XO D N st y) (hd:DD D N d):FpP D N (a0w G N d (.pick c x y)) st sw tt:=
 FpP.bindM (a7v hc fun _=>FpP.bindM (FpP.read hx (FpP.bindM (FpP.read hy (FpP.bindM (FpP.opt fun _ _=>FpP.setD hd fun _ _=>trivial))))))
theorem c11 {T:TypeId} {zs:List AV} (hd:DD D N d):FpP D N (a0w G N d (.alloc T zs)) st sw tt:=FpP.thru (Nat.le_refl _) hd fun _ _=>trivial
theorem c13 {s t:TypeId} {k:IntKind} (hx:XO D N st x) (hd:DD D N d):FpP D N (a0w G N d (.conv s t (.int k) x)) st sw tt:=by
 refine FpP.bindM (a7v hx fun v=> ?_)
 cases v<;>simp only<;>first | exact FpP.fail | exact FpP.setD hd fun _ _=>trivial
theorem d2p {T:TypeId} (hx:XO D N st x) (hd:DD D N d):FpP D N (a0w G N d (.mki T x)) st sw tt:=by
 refine FpP.bindM (FpP.read hx ?_)
 cases hv:rdv st x<;>simp only<;>first | exact FpP.fail | exact FpP.setD hd fun _ _=>trivial | exact FpP.bindM (FpP.tmp fun t ht=>FpP.bindM (FpP.upd (hx.t t ht).1 (hx.t t ht).2 (FpP.setD hd fun _ _=>trivial)))
theorem d2q {T e:TypeId} {sz by_:Nat} {zs:List AV} (hx:XO D N st x) (hy:XO D N st y) (hd:DD D N d):FpP D N (a0w G N d (.mks T e sz by_ zs x y)) st sw tt:=
 FpP.bindM (b7s hx fun _=>FpP.bindM (b7s hy fun _=>FpP.bindM (FpP.guard fun _=>FpP.thru (Nat.le_refl _) hd fun _ _=>trivial)))
theorem d2n {i:Nat} (hx:XO D N st x) (hd:DD D N d):FpP D N (a0w G N d (.ext x i)) st sw tt:=by
 refine FpP.bindM (FpP.read hx ?_)
 cases hv:rdv st x<;>simp only<;>try exact FpP.fail
 refine FpP.bindM (FpP.opt fun k _=> ?_)
 split
 ·exact FpP.setD hd fun _ _=>trivial
 ·exact FpP.bindM (FpP.tmp fun t ht=>FpP.bindM (FpP.put (hx.t t ht).1 (hx.t t ht).2 (FpP.thru (Nat.le_refl _) hd fun _ _=>trivial)))
theorem d2o {T off f:Nat} (hx:XO D N st x) (hd:DD D N d):FpP D N (a0w G N d (.fld T off x f)) st sw tt:=by
 refine FpP.bindM (FpP.read hx ?_)
 cases hv:rdv st x<;>simp only<;>try exact FpP.fail
 exact FpP.bindM (FpP.opt fun k _=>FpP.bindM (FpP.guard fun _=>FpP.setD hd fun _ _=>trivial))
theorem c3q {P:Int->St->List Nat->Prop} (hx:XO D N st x) (h:∀ v,P v st sw):FpP D N (c5e x) st sw P:=by
 refine FpP.bindM (a7v hx fun v=> ?_)
 split
 ·exact FpP.ret (h _)
 ·exact FpP.fail
theorem b99 {P:(Nat×List Nat×AV×List Int×List AV)->St->List Nat->Prop} (hx:XO D N st x) (h:∀ t q v keys vals,D t->t < N->P (t,q,v,keys,vals) st sw):FpP D N (c5o x) st sw P:=by
 refine FpP.bindM (FpP.read hx ?_)
 cases hv:rdv st x<;>simp only<;>try exact FpP.fail
 rename_i t q lo n e
 have hb:=hx.b t (by rw [hv]; rfl)
 refine FpP.bindM (FpP.get hb.1 hb.2 (FpP.bindM (FpP.guard fun _=>FpP.bindM (FpP.opt fun k _=> ?_))))
 cases k<;>simp only<;>first | exact FpP.fail | exact FpP.ret (h _ _ _ _ _ hb.1 hb.2)
theorem c18 {T:TypeId} (hd:DD D N d):FpP D N (a0w G N d (.mkmap T)) st sw tt:=FpP.thru (Nat.le_refl _) hd fun _ _=>trivial
theorem c48 {T e:TypeId} {zs:List AV} (hx:XO D N st x) (hy:XO D N st y) (hd:DD D N d):FpP D N (a0w G N d (.mget T e zs x y)) st sw tt:=by
 refine FpP.bindM (b99 hx fun t q v keys vals _ _=>FpP.bindM (c3q hy fun n=> ?_))
 split
 ·exact FpP.bindM (FpP.guard fun _=>FpP.setD hd fun _ _=>trivial)
 ·exact FpP.bindM (FpP.guard fun _=>FpP.setD hd fun _ _=>trivial)
theorem c49 {T e:TypeId} {z:X} (hx:XO D N st x) (hy:XO D N st y) (hz:XO D N st z):FpP D N (a0w G N d (.mset T e x y z)) st sw tt:=
 FpP.bindM (FpP.guard fun _=>FpP.bindM (b99 hx fun t q v keys vals hD hN=>FpP.bindM (c3q hy fun n=>FpP.bindM (FpP.read hz (FpP.bindM (FpP.guard fun _=>FpP.upd hD hN trivial))))))
theorem d2v {xT T:TypeId} {zs:List AV} (hx:XO D N st x) (hd:DD D N d):FpP D N (a0w G N d (.tas x xT T zs)) st sw tt:=by
 refine FpP.bindM (FpP.read hx ?_)
 simp only
 split
 ·exact FpP.setD hd fun _ _=>trivial
 ·exact FpP.setD hd fun _ _=>trivial
 ·exact FpP.bindM (FpP.guard fun _=>FpP.setD hd fun _ _=>trivial)
 ·exact FpP.fail
theorem e30 {mx:Bool} {ts:List TypeId} (hx:XO D N st x) (hy:XO D N st y) (hd:DD D N d):FpP D N (a0w G N d (.mm mx ts [x,y])) st sw tt:=by
 refine FpP.bindM (a7v hx fun u=>FpP.bindM (a7v hy fun v=> ?_))
 split
 ·exact FpP.bindM (FpP.guard fun _=>FpP.setD hd fun _ _=>trivial)
 ·exact FpP.fail
theorem d2m {b:BinOp} {T tp te:TypeId} {yT:TypeId} (hx:XO D N st x) (hy:XO D N st y) (hd:DD D N d):FpP D N (a0w G N d (.eqs b T tp te x y yT)) st sw tt:=by
 refine FpP.bindM (a7v hx fun u=>FpP.bindM (a7v hy fun v=> ?_))
 split
 ·refine FpP.bindM (FpP.guard fun _=> ?_)
  split<;>first | exact FpP.setD hd fun _ _=>trivial | exact FpP.fail
 ·exact FpP.fail
end
open Classical
section
variable {D:Nat->Prop} {N:Nat} {st:St} {sw:List Nat} {d:Option Nat} {x y:X} {G:GG}
theorem c2c {T:TypeId} {sz:Nat} {lo hi:Option X} (hx:XO D N st x) (hlo:∀ y,lo=some y->XO D N st y) (hhi:∀ y,hi=some y->XO D N st y) (hd:DD D N d):FpP D N (a0w G N d (.slice T sz x lo hi none)) st sw tt:=by
 refine FpP.bindM (FpP.read hx ?_)
 have rest:FpP D N (do
   a0f (decide (0 < sz))
   let (t,q,lo0,n)<-a5q x
   let v<-a88 t
   let k<-a2r (a0c v.1 q)
   match k with
   | .own sz' n0 _=>do
    let l<-a2i lo 0
    let h<-a2i hi n
    a0f (decide (0<=l)&&decide (l<=h)&&decide (h<=(n:Int))&&decide (lo0+n<=n0)&&sz'==sz&&(lo0==0||l==0||decide (l < h)))
    match (none:Option X) with
    | none=>setD d (.bor t q (lo0+l.toNat) (h - l).toNat v.2)
    | some m=>do
     let m<-b8k m
     a0f (l==0&&h==0&&m==0&&hi.isSome)
     a26 N d (.own sz 0 [])
   | _=> .fail) st sw tt:=by
  refine FpP.bindM (FpP.guard fun _=>FpP.bindM (b96 hx fun t q lo0 n hD hN=>FpP.bindM (FpP.get hD hN (FpP.bindM (FpP.opt fun k _=> ?_)))))
  cases k<;>simp only<;>try exact FpP.fail
  exact FpP.bindM (a5r hlo fun _=>FpP.bindM (a5r hhi fun _=>FpP.bindM (FpP.guard fun _=>FpP.setD hd fun _ _=>trivial)))
 cases hv:rdv st x
 case lit v=>
  cases v<;>simp only<;>try exact rest
  exact FpP.bindM (a5r hlo fun _=>FpP.bindM (a5r hhi fun _=>FpP.bindM (FpP.guard fun _=>FpP.setD hd fun _ _=>trivial)))
 case sl=>exact FpP.bindM (FpP.guard fun _=>FpP.bindM (a5r hlo fun _=>FpP.bindM (a5r hhi fun _=>FpP.bindM (FpP.guard fun _=>FpP.setD hd fun _ _=>trivial))))
 all_goals exact rest
theorem c5b {P:Unit->St->List Nat->Prop} (hx:XO D N st x) (h:∀ st' sw',BLe N st st'->N∈sw'->P () st' sw'):FpP D N (b7c x N) st sw P:=by
 have hN:¬ N < N:=Nat.lt_irrefl _
 refine FpP.bindM (FpP.read hx ?_)
 cases hv:rdv st x<;>simp only<;>try exact FpP.fail
 ·cases x with
  | t t=>exact FpP.bindM (FpP.put (hx.t t rfl).1 (hx.t t rfl).2 (FpP.putN hN (h _ _ ((BLe.put rfl).trans (BLe.putN hN)) (by simp))))
  | _=>exact FpP.putN hN (h _ _ (BLe.putN hN) (by simp))
 ·rename_i t q lo n e
  have hb:=hx.b t (by rw [hv]; rfl)
  refine FpP.bindM (FpP.get hb.1 hb.2 (FpP.bindM (FpP.guard fun _=>FpP.bindM (FpP.opt fun k hk=> ?_))))
  cases k<;>simp only<;>try exact FpP.fail
  exact FpP.bindM (FpP.guard fun _=>FpP.bindM (FpP.upd hb.1 hb.2 (FpP.putN hN (h _ _ ((BLe.set (a30 hk rfl)).trans (BLe.putN hN)) (by simp)))))
theorem d2u {P:Unit->St->List Nat->Prop} (hx:XO D N st x) (h:∀ st' sw',(∀ t∈sw,t∈sw')->N+1∈sw'->P () st' sw'):FpP D N (c9t x N) st sw P:=by
 have hN:¬ N+1 < N:=by omega
 refine FpP.bindM (FpP.read hx ?_)
 cases hv:rdv st x<;>simp only<;>try exact FpP.fail
 ·exact FpP.putN hN (h _ _ (fun t ht=>by simp [ht]) (by simp))
 ·cases x with
  | t t=>exact FpP.bindM (FpP.put (hx.t t rfl).1 (hx.t t rfl).2 (FpP.putN hN (h _ _ (fun t ht=>by simp [ht]) (by simp))))
  | _=>exact FpP.putN hN (h _ _ (fun t ht=>by simp [ht]) (by simp))
 ·rename_i t q lo n e
  have hb:=hx.b t (by rw [hv]; rfl)
  refine FpP.bindM (FpP.get hb.1 hb.2 (FpP.bindM (FpP.guard fun _=>FpP.bindM (FpP.opt fun k hk=> ?_))))
  cases k<;>simp only<;>try exact FpP.fail
  exact FpP.bindM (FpP.guard fun _=>FpP.bindM (FpP.upd hb.1 hb.2 (FpP.putN hN (h _ _ (fun t ht=>by simp [ht]) (by simp)))))
theorem d2j {T e:TypeId} {sz by_:Nat} (hx:XO D N st x) (hy:XO D N st y) (hd:DD D N d):FpP D N (a0w G N d (.app T e sz by_ x y)) st sw tt:=by
 have hN:¬ N < N:=Nat.lt_irrefl _
 have hN1:¬ N+1 < N:=by omega
 refine FpP.bindM (c5b hx fun st1 sw1 hb hs=>FpP.bindM (d2u (hy.le hb) fun st2 sw2 hsw hs1=>FpP.bindM (FpP.getv hN (hsw _ hs) (FpP.bindM (FpP.getv hN1 hs1 ?_)))))
 split
 ·exact FpP.bindM (FpP.guard fun _=>FpP.bindM (FpP.putN hN1 (FpP.thru (Nat.le_refl _) hd fun _ _=>trivial)))
 ·exact FpP.bindM (FpP.guard fun _=>FpP.bindM (FpP.putN hN1 (FpP.thru (Nat.le_refl _) hd fun _ _=>trivial)))
 ·exact FpP.fail
theorem c15 {j:Nat} (hj:N<=j) {P:Unit->St->List Nat->Prop} (hx:XO D N st x) (h:∀ st' sw',BLe N st st'->(∀ t∈sw,t∈sw')->j∈sw'->P () st' sw'):FpP D N (b6i N x j) st sw P:=by
 have hN:¬ j < N:=Nat.not_lt.2 hj
 have one:∀ {v:AV},FpP D N (a2a j v) st sw P:=FpP.putN hN (h _ _ (BLe.putN hN) (fun t ht=>by simp [ht]) (by simp))
 have tail:∀ v:AV,FpP D N (a2y x j v) st sw P:=by
  intro v
  unfold a2y
  cases x with
  | t t=>
   simp only
   split
   ·exact one
   ·exact FpP.bindM (FpP.put (hx.t t rfl).1 (hx.t t rfl).2 (FpP.putN hN (h _ _ ((BLe.put rfl).trans (BLe.putN hN)) (fun t ht=>by simp [ht]) (by simp))))
  | _=>exact one
 refine FpP.bindM (FpP.read hx ?_)
 cases hv:rdv st x<;>simp only
 case dead=>exact FpP.fail
 case bor t q lo n e=>
  have hb:=hx.b t (by rw [hv]; rfl)
  refine FpP.bindM (FpP.get hb.1 hb.2 (FpP.bindM (FpP.guard fun _=>FpP.bindM (FpP.opt fun k hk=> ?_))))
  cases k<;>simp only<;>try exact FpP.fail
  exact FpP.bindM (FpP.guard fun _=>FpP.bindM (FpP.upd hb.1 hb.2 (FpP.putN hN (h _ _ ((BLe.set (a30 hk rfl)).trans (BLe.putN hN)) (fun t ht=>by simp [ht]) (by simp)))))
 all_goals exact FpP.bindM (FpP.guard fun _=>tail _)
theorem c1q {v:AV} (h:a0i v=false):a1y (frz v)=none:=by
 cases v<;>first | rfl | simp [a0i] at h
theorem b3b {t0:Nat} (hD:D t0/\t0 < N):∀ (ks:List AV) {st:St} {P:List AV->St->List Nat->Prop},(∀ l st',BLe N st st'->P l st' sw)->FpP D N (a7t N t0 ks) st sw P
 | [],st,P,h=>FpP.ret (h _ _ (BLe.refl _))
 | k::ks,st,P,h=>by
  have plain:FpP D N (do a0f (a3m k); let l<-a7t N t0 ks; pure (k::l):Ev (List AV)) st sw P:=
   FpP.bindM (FpP.guard fun _=>FpP.bindM (b3b hD ks fun l st' hb=>FpP.ret (h _ _ hb)))
  cases k with
  | bor t q lo n e=>
   rw [a7t]
   refine FpP.bindM (FpP.guard fun _=>FpP.bindM (FpP.get hD.1 hD.2 (FpP.bindM (FpP.guard fun _=>FpP.bindM (FpP.opt fun k hk=> ?_)))))
   cases k<;>simp only<;>try exact FpP.fail
   exact FpP.bindM (FpP.guard fun _=>FpP.bindM (FpP.upd hD.1 hD.2 (FpP.bindM (b3b hD ks fun l st' hb=>FpP.ret (h _ _ ((BLe.set (a30 hk rfl)).trans hb))))))
  | _=>rw [a7t]<;>first | exact plain | (intros; simp_all)
theorem c2b {j:Nat} (hj:N<=j) {P:Unit->St->List Nat->Prop} (hx:XO D N st x) (h:∀ st' sw',BLe N st st'->(∀ t∈sw,t∈sw')->j∈sw'->P () st' sw'):FpP D N (b3n N x j) st sw P:=by
 have hN:¬ j < N:=Nat.not_lt.2 hj
 have one:∀ {v:AV},FpP D N (a2a j v) st sw P:=FpP.putN hN (h _ _ (BLe.putN hN) (fun t ht=>by simp [ht]) (by simp))
 have tail:∀ v:AV,FpP D N (a2l x j v) st sw P:=by
  intro v
  unfold a2l
  cases x with
  | t t=>
   simp only
   split
   ·exact one
   ·rename_i hno
    exact FpP.bindM (FpP.upd (hx.t t rfl).1 (hx.t t rfl).2 (FpP.putN hN (h _ _ ((BLe.set (c1q (by simpa using hno))).trans (BLe.putN hN)) (fun t ht=>by simp [ht]) (by simp))))
  | _=>exact one
 refine FpP.bindM (FpP.read hx ?_)
 cases hv:rdv st x<;>simp only
 case dead=>exact FpP.fail
 case bor t q lo n e=>
  have hb:=hx.b t (by rw [hv]; rfl)
  refine FpP.bindM (FpP.get hb.1 hb.2 (FpP.bindM (FpP.guard fun _=>FpP.bindM (FpP.opt fun k hk=> ?_))))
  cases k<;>simp only<;>try exact FpP.fail
  exact FpP.bindM (FpP.guard fun _=>FpP.bindM (FpP.upd hb.1 hb.2 (FpP.putN hN (h _ _ ((BLe.set (a30 hk rfl)).trans (BLe.putN hN)) (fun t ht=>by simp [ht]) (by simp)))))
 case loan ks=>
  exact FpP.bindM (FpP.opt fun t ht=>FpP.bindM (b3b (hx.b t (by rw [hv]; exact ht)) ks fun l st' hb=>FpP.putN hN (h _ _ (hb.trans (BLe.putN hN)) (fun t ht=>by simp [ht]) (by simp))))
 all_goals exact FpP.bindM (FpP.guard fun _=>tail _)
theorem b7r:∀ (xs:List (Bool×X)) (j:Nat) {st:St} {sw:List Nat} {P:Unit->St->List Nat->Prop},N<=j->(∀ p∈xs,XO D N st p.2)->(∀ st' sw',BLe N st st'->(∀ t∈sw,t∈sw')->(∀ i x,xs[i]? =some (true,x)->j+i∈sw')->P () st' sw')->FpP D N (a4e N j xs) st sw P
 | [],j,st,sw,P,hj,hx,h=>FpP.ret (h _ _ (BLe.refl _) (fun _ h=>h) (fun i x hi=>by simp at hi))
 | (b,x)::xs,j,st,sw,P,hj,hx,h=>by
  refine FpP.bindM ?_
  have go:∀ st1 sw1,BLe N st st1->(∀ t∈sw,t∈sw1)->(b=true->j∈sw1)->FpP D N (a4e N (j+1) xs) st1 sw1 P:=fun st1 sw1 hb hs hj1=>
   b7r xs (j+1) (by omega) (fun p hp=>(hx p (by simp [hp])).le hb) fun st2 sw2 hb2 hs2 hi=>h _ _ (hb.trans hb2) (fun t ht=>hs2 t (hs t ht)) fun i y hy=>by
    cases i with
    | zero=>
     simp only [List.getElem?_cons_zero,Option.some.injEq,Prod.mk.injEq] at hy
     exact hs2 _ (hj1 hy.1)
    | succ i=>rw [show j+(i+1)=j+1+i by omega]; exact hi i y (by simpa using hy)
  cases b with
  | true=>exact c15 hj (hx (true,x) (by simp)) fun st1 sw1 hb hs hj1=>go st1 sw1 hb hs fun _=>hj1
  | false=>exact FpP.ret (go st sw (BLe.refl _) (fun _ h=>h) fun hc=>by cases hc)
theorem b4p:∀ (xs:List (Bool×X)) (j:Nat) {st:St} {sw:List Nat} {P:Unit->St->List Nat->Prop},N<=j->(∀ p∈xs,XO D N st p.2)->(∀ st' sw',(∀ t∈sw,t∈sw')->(∀ i x,xs[i]? =some (false,x)->j+i∈sw')->P () st' sw')->FpP D N (a2s N j xs) st sw P
 | [],j,st,sw,P,hj,hx,h=>FpP.ret (h _ _ (fun _ h=>h) (fun i x hi=>by simp at hi))
 | (b,x)::xs,j,st,sw,P,hj,hx,h=>by
  refine FpP.bindM ?_
  have go:∀ st1 sw1,BLe N st st1->(∀ t∈sw,t∈sw1)->(b=false->j∈sw1)->FpP D N (a2s N (j+1) xs) st1 sw1 P:=fun st1 sw1 hb hs hj1=>
   b4p xs (j+1) (by omega) (fun p hp=>(hx p (by simp [hp])).le hb) fun st2 sw2 hs2 hi=>h _ _ (fun t ht=>hs2 t (hs t ht)) fun i y hy=>by
    cases i with
    | zero=>
     simp only [List.getElem?_cons_zero,Option.some.injEq,Prod.mk.injEq] at hy
     exact hs2 _ (hj1 hy.1)
    | succ i=>rw [show j+(i+1)=j+1+i by omega]; exact hi i y (by simpa using hy)
  cases b with
  | false=>exact c2b hj (hx (false,x) (by simp)) fun st1 sw1 hb hs hj1=>go st1 sw1 hb hs fun _=>hj1
  | true=>exact FpP.ret (go st sw (BLe.refl _) (fun _ h=>h) fun hc=>by cases hc)
end
def a9i:IOp->Option (List X)
 | .mv x=>some [x]
 | .asg x=>some [x]
 | .mva x=>some [x]
 | .mvf x=>some [x]
 | .pick c x y=>some [c,x,y]
 | .alloc _ _=>some []
 | .box _ _ x=>some [x]
 | .build _ _ parts=>some (parts.map fun p=>p.2.2.2)
 | .bslice _ _ _ _ _ parts=>some (parts.map fun p=>p.2)
 | .load _ _ x=>some [x]
 | .store _ _ x y=>some [x,y]
 | .nilck x=>some [x]
 | .bin _ _ _ x y _=>some [x,y]
 | .un _ _ x=>some [x]
 | .eqs _ _ _ _ x y _=>some [x,y]
 | .conv _ _ (.int _) x=>some [x]
 | .mki _ x=>some [x]
 | .mks _ _ _ _ _ x y=>some [x,y]
 | .slice _ _ x lo hi none=>some (x::(lo.toList++hi.toList))
 | .faddr _ _ x _=>some [x]
 | .aaddr _ _ x _=>some [x]
 | .iaddr _ _ x i=>some [x,i]
 | .ext x _=>some [x]
 | .fld _ _ x _=>some [x]
 | .tas x _ _ _=>some [x]
 | .len _ _ x=>some [x]
 | .app _ _ _ _ x y=>some [x,y]
 | .mm _ _ [x,y]=>some [x,y]
 | .mkmap _=>some []
 | .mget _ _ _ x k=>some [x,k]
 | .mset _ _ x k v=>some [x,k,v]
 | _=>none
def c9u (N:Nat) (st:St):IOp->Bool
 | .store _ _ _ y=>match giv st N y (rdv st y) with
  | some r=>a0j r.2
  | none=>true
 | _=>true
def c07 (N:Nat) (st:St):IOp->Prop
 | .store _ _ _ y=>match giv st N y (rdv st y) with
  | some r=>a0j r.2=true
  | none=>True
 | _=>True
theorem c58 {N:Nat} {st:St} {i:IOp} (h:c9u N st i=true):c07 N st i:=by
 cases i<;>try trivial
 simp only [c9u,c07] at h ⊢
 split<;>rename_i hh
 ·rw [hh] at h; exact h
 ·trivial
theorem d2s {D:Nat->Prop} {N:Nat} {st:St} {sw:List Nat} {d:Option Nat} {G:GG} {i:IOp} {xs:List X} (ho:a9i i=some xs) (hx:∀ x∈xs,XO D N st x) (hd:DD D N d) (hs:c07 N st i\/∀ t,t < N->D t):FpP D N (a0w G N d i) st sw tt:=by
 cases i<;>simp only [a9i,Option.some.injEq,reduceCtorEq] at ho
 case mv=>subst ho; exact d2r (hx _ (by simp)) hd
 case asg=>subst ho; exact c3p (hx _ (by simp)) hd
 case mva=>subst ho; exact c3p (hx _ (by simp)) hd
 case mvf=>subst ho; exact d2r (hx _ (by simp)) hd
 case pick=>subst ho; exact c5a (hx _ (by simp)) (hx _ (by simp)) (hx _ (by simp)) hd
 case alloc=>exact c11 hd
 case box=>subst ho; exact d2l (hx _ (by simp)) hd
 case build=>subst ho; exact c12 (fun p hp=>hx _ (List.mem_map.2 ⟨p,hp,rfl⟩)) hd
 case bslice=>subst ho; exact b97 (fun p hp=>hx _ (List.mem_map.2 ⟨p,hp,rfl⟩)) hd
 case load=>subst ho; exact b98 (hx _ (by simp)) hd
 case store T s x y=>
  subst ho
  by_cases hdn:d=none
  ·refine c2d (hx _ (by simp)) (hx _ (by simp)) hdn fun r hr=> ?_
   rcases hs with hs | hs
   ·simp only [c07,hr] at hs
    exact .inl hs
   ·exact .inr hs
  ·intro a st' hr
   exfalso
   cases d with
   | none=>exact hdn rfl
   | some d=>cases hr
 case nilck=>subst ho; exact c19 (hx _ (by simp)) hd
 case bin=>subst ho; exact d2k (hx _ (by simp)) (hx _ (by simp)) hd
 case un=>subst ho; exact e31 (hx _ (by simp)) hd
 case eqs=>subst ho; exact d2m (hx _ (by simp)) (hx _ (by simp)) hd
 case conv s t k x=>
  cases k<;>simp only [a9i,Option.some.injEq,reduceCtorEq] at ho
  subst ho; exact c13 (hx _ (by simp)) hd
 case mki=>subst ho; exact d2p (hx _ (by simp)) hd
 case mks=>subst ho; exact d2q (hx _ (by simp)) (hx _ (by simp)) hd
 case slice T sz x lo hi mx=>
  cases mx<;>simp only [a9i,Option.some.injEq,reduceCtorEq] at ho
  subst ho
  exact c2c (hx _ (by simp)) (fun y hy=>hx _ (by simp [hy])) (fun y hy=>hx _ (by simp [hy])) hd
 case faddr=>subst ho; exact c14 (hx _ (by simp)) hd
 case aaddr=>subst ho; exact c10 (hx _ (by simp)) hd
 case iaddr=>subst ho; exact c16 (hx _ (by simp)) (hx _ (by simp)) hd
 case ext=>subst ho; exact d2n (hx _ (by simp)) hd
 case fld=>subst ho; exact d2o (hx _ (by simp)) hd
 case tas=>subst ho; exact d2v (hx _ (by simp)) hd
 case len=>subst ho; exact c17 (hx _ (by simp)) hd
 case mkmap=>exact c18 hd
 case mget=>subst ho; exact c48 (hx _ (by simp)) (hx _ (by simp)) hd
 case mset=>subst ho; exact c49 (hx _ (by simp)) (hx _ (by simp)) (hx _ (by simp))
 case app=>subst ho; exact d2j (hx _ (by simp)) (hx _ (by simp)) hd
 case mm mx ts xs2=>
  match xs2,ho with
  | [x,y],ho=>
   simp only [Option.some.injEq] at ho
   subst ho
   exact e30 (hx _ (by simp)) (hx _ (by simp)) hd
open Classical
def b5m (st:St):X->List Nat
 | .t n=>n::(a1y (st.s n)).toList
 | _=>[]
def a0t (st:St):List X->List Nat
 | []=>[]
 | x::xs=>b5m st x++a0t st xs
def slX:X->List Nat
 | .t n=>[n]
 | _=>[]
def slL:List X->List Nat
 | []=>[]
 | x::xs=>slX x++slL xs
theorem b25 {st:St} {x:X}:∀ {xs:List X},x∈xs->∀ t∈b5m st x,t∈a0t st xs
 | y::ys,h,t,ht=>by
  rcases List.mem_cons.1 h with rfl | h
  ·simp [a0t,ht]
  ·simp [a0t,b25 h t ht]
theorem c6f {DL:List Nat} {N:Nat} {st:St} {xs:List X} (h:∀ t∈a0t st xs,t∈DL) (hN:∀ t∈DL,t < N):∀ x∈xs,XO (· ∈DL) N st x:=fun x hx=>{
 t:=fun t ht=>by
  subst ht
  have:=h t (b25 hx t (by simp [b5m]))
  exact ⟨this,hN t this⟩
 b:=fun u hu=>by
  cases x with
  | t t=>
   have:=h u (b25 hx u (by simp [b5m,show a1y (st.s t)=some u from hu]))
   exact ⟨this,hN u this⟩
  | _=>cases hu }
def fr (N:Nat) (W:List Nat) (st st':St):Prop:=∀ t,t < N->t ∉ W->agr st st' t
section
variable {V:List (Nat×Nat)} {P:Program} {G:GG} {N:Nat} {st st':St} {step:(St->Prop)->St->Prop}
theorem Loc.widen {rd wr DL W:List Nat} (h:Loc P G N V step st st' rd wr) (h1:∀ t∈rd,t∈DL) (h2:∀ t∈wr,t∈DL) (h3:∀ t∈DL,t < N) (h4:∀ t∈W,t < N) (hf:fr N W st st'):Loc P G N V step st st' DL W where
 lt t ht:=ht.elim (h3 t) (h4 t)
 frame t ht hn:=hf t ht hn
 loc st2 hV hst K hK:=h.loc st2 hV (fun t ht=>hst t (.inl (ht.elim (h1 t) (h2 t)))) K fun st2' g1 g2=>hK st2' (fun t ht=>by
   by_cases hw:t∈wr
   ·exact g1 t hw
   ·exact ((h.frame t (h4 t ht) hw).symm.trans (hst t (.inr ht))).trans (g2 t (h4 t ht) hw)) (fun t ht hn=>by
   by_cases hw:t∈wr
   ·exact ((hst t (.inl (h2 t hw))).symm.trans (hf t ht hn)).trans (g1 t hw)
   ·exact g2 t ht hw)
theorem d3s {d:Option Nat} {i:IOp} {xs:List X} {W:List Nat} (ho:a9i i=some xs) (he:evS G N d i st=some st') (hN:∀ t∈d.toList++a0t st xs,t < N) (hW:∀ t∈W,t < N) (hs:c07 N st i) (hf:fr N W st st') :
  Loc P G N V (b1o P G N d (.op i)) st st' (d.toList++a0t st xs) W:=by
 have hx:=c6f (DL:=d.toList++a0t st xs) (st:=st) (xs:=xs) (fun t ht=>by simp [ht]) hN
 have hd:DD (· ∈d.toList++a0t st xs) N d:=fun t ht=>by
  subst ht
  exact ⟨by simp,hN t (by simp)⟩
 unfold evS at he
 cases hr:(a0w G N d i).run st with
 | none=>rw [hr] at he; cases he
 | some r=>
  obtain ⟨u,st1⟩:=r
  rw [hr] at he
  simp only [Option.map,Option.some.injEq] at he
  subst he
  obtain ⟨rd,wr,sw',g1,g2,g3,_⟩:=d2s (sw:=[]) ho hx hd (.inl hs) u st1 hr
  obtain ⟨st2,rd2,wr2,⟨rfl,rfl,rfl⟩,hL⟩:=b2w (V:=V) (P:=P) (G:=G) (N:=N) (d:=d) (act:= .op i) (st:=st) (K:=fun st2 rd2 wr2=>st2=st1/\rd2=rd/\wr2=wr) (by simp only [c98,g1,and_self])
  exact hL.widen g2 g3 hN hW hf
theorem c5n {d:Nat} {p:Nat×Nat} (hI:a6m V st) (hp:p∈V) (hd:d < N) (he:evS G N (some d) (.mv (.t p.1)) st=some st'):Loc P G N V (b1o P G N (some d) (.op (.mv (.t p.1)))) st st' (some d).toList [d]/\True:=by
 have run:∀ s:St,a6m V s->(a0w G N (some d) (.mv (.t p.1))).run s=some ((),s.put d (.ref p.1 [] 0 p.2)):=by
  intro s hs
  obtain ⟨h1,h2⟩:=hs p hp
  cases hv:s.s p.1<;>simp only [hv,b4q,reduceCtorEq] at h1
  simp only [a0w,mvE,Ev.run_bind,a0o,rdv,rde,hv,a9z,Ev.run,setD,a2a,Option.bind,h2]
 have hst:st'=st.put d (.ref p.1 [] 0 p.2):=by
  simp only [evS,run st hI,Option.map,Option.some.injEq] at he
  exact he.symm
 subst hst
 refine ⟨⟨fun t ht=> ?_,fun t ht hn=> ?_,fun st2 hV2 hag K hK=> ?_⟩,trivial⟩
 ·rcases ht with ht | ht<;>simp at ht<;>subst ht<;>exact hd
 ·exact agr.putn _ (by simpa using hn)
 ·simp only [b1o,run st2 hV2]
  refine hK _ (fun t ht=>(hag t (.inr ht)).put _) (fun t ht hn=>agr.putn _ (by simpa using hn))
theorem c2o {d:Option Nat} {i:IOp} {xs:List X} (ho:a9i i=some xs) (he:evS G N d i st=some st') (hN:∀ t∈d.toList++a0t st xs,t < N) :
  Loc P G N V (b1o P G N d (.op i)) st st' (List.range N) (List.range N):=by
 have hx:∀ x∈xs,XO (· < N) N st x:=fun x hx=>by
  have:=c6f (DL:=d.toList++a0t st xs) (st:=st) (xs:=xs) (fun t ht=>by simp [ht]) hN x hx
  exact { t:=fun t ht=>⟨(this.t t ht).2,(this.t t ht).2⟩,b:=fun u hu=>⟨(this.b u hu).2,(this.b u hu).2⟩ }
 have hd:DD (· < N) N d:=fun t ht=>by
  subst ht
  exact ⟨hN t (by simp),hN t (by simp)⟩
 unfold evS at he
 cases hr:(a0w G N d i).run st with
 | none=>rw [hr] at he; cases he
 | some r=>
  obtain ⟨u,st1⟩:=r
  rw [hr] at he
  simp only [Option.map,Option.some.injEq] at he
  subst he
  obtain ⟨rd,wr,sw',g1,g2,g3,_⟩:=d2s (sw:=[]) ho hx hd (.inr fun t ht=>ht) u st1 hr
  obtain ⟨st2,rd2,wr2,⟨rfl,rfl,rfl⟩,hL⟩:=b2w (V:=V) (P:=P) (G:=G) (N:=N) (d:=d) (act:= .op i) (st:=st) (K:=fun st2 rd2 wr2=>st2=st1/\rd2=rd/\wr2=wr) (by simp only [c98,g1,and_self])
  exact hL.widen (fun t ht=>List.mem_range.2 (g2 t ht)) (fun t ht=>List.mem_range.2 (g3 t ht)) (fun t ht=>List.mem_range.1 ht) (fun t ht=>List.mem_range.1 ht) (fun t ht hn=>absurd (List.mem_range.2 ht) hn)
theorem c2n {d:Option Nat} {f:FuncId} {args:List (Bool×X)} {tys:List TypeId} {st1 st2:St} {res:AV} {W:List Nat} (h1:gvs N (N+2) args (some st)=some st1) (h2:pss N (N+2) args (some st1)=some st2) (hA:ACalls P G f (a34 N args.length st2) res) (hn:noRef res=true)
  (hN:∀ t∈d.toList++a0t st (args.map (·.2)),t < N) (hW:∀ t∈W,t < N) (hf:fr N W st (b0g (if a0v res then st1 else st2) N d res)) :
  Loc P G N V (b1o P G N d (.call f args tys)) st (b0g (if a0v res then st1 else st2) N d res) (d.toList++a0t st (args.map (·.2))) W:=by
 have hx:=c6f (DL:=d.toList++a0t st (args.map (·.2))) (st:=st) (xs:=args.map (·.2)) (fun t ht=>by simp [ht]) hN
 have hx':∀ p∈args,XO (· ∈d.toList++a0t st (args.map (·.2))) N st p.2:=fun p hp=>hx _ (List.mem_map.2 ⟨p,hp,rfl⟩)
 have hd:DD (· ∈d.toList++a0t st (args.map (·.2))) N d:=fun t ht=>by
  subst ht
  exact ⟨by simp,hN t (by simp)⟩
 rw [<-a5z] at h1
 cases hr1:(a4e N (N+2) args).run st with
 | none=>rw [hr1] at h1; cases h1
 | some r1=>
  obtain ⟨u1,st1'⟩:=r1
  rw [hr1] at h1
  simp only [Option.map,Option.some.injEq] at h1
  subst h1
  rw [<-a24] at h2
  cases hr2:(a2s N (N+2) args).run st1' with
  | none=>rw [hr2] at h2; cases h2
  | some r2=>
   obtain ⟨u2,st2'⟩:=r2
   rw [hr2] at h2
   simp only [Option.map,Option.some.injEq] at h2
   subst h2
   obtain ⟨rd,wr,sw1,a1,a2,a3,hb,_,a4⟩:=b7r (N:=N) (D:=(· ∈d.toList++a0t st (args.map (·.2)))) args (N+2) (st:=st) (sw:=[]) (P:=fun _ st' sw'=>BLe N st st'/\(∀ t∈[],t∈sw')/\(∀ i x,args[i]? =some (true,x)->N+2+i∈sw')) (by omega) hx' (fun st' sw' b1 b2 b3=>⟨b1,b2,b3⟩) u1 st1' hr1
   obtain ⟨rd2,wr2,sw2,c1,c2,c3,c4,c5⟩:=b4p (N:=N) (D:=(· ∈d.toList++a0t st (args.map (·.2)))) args (N+2) (st:=st1') (sw:=sw1) (P:=fun _ st' sw'=>(∀ t∈sw1,t∈sw')/\(∀ i x,args[i]? =some (false,x)->N+2+i∈sw')) (by omega) (fun p hp=>(hx' p hp).le hb) (fun st' sw' b1 b2=>⟨b1,b2⟩) u2 st2' hr2
   have hfin:∃ rd3 wr3 sw3,(b5n N d res).runF N ((if a0v res then st1' else st2').clear N) []=some ⟨(),b0g (if a0v res then st1' else st2') N d res,rd3,wr3,sw3⟩/\(∀ t∈rd3,t∈d.toList++a0t st (args.map (·.2)))/\(∀ t∈wr3,t∈d.toList++a0t st (args.map (·.2))):=by
    cases d with
    | none=>exact ⟨[],[],[],rfl,by simp,by simp⟩
    | some d=>
     obtain ⟨rd3,wr3,sw3,e1,e2,e3,_⟩:=FpP.thru (D:=(· ∈(some d).toList++a0t st (args.map (·.2)))) (N:=N) (st:=(if a0v res then st1' else st2').clear N) (sw:=[]) (d:=some d) (v:=res) (M:=N) (P:=tt) (Nat.le_refl _) hd (fun _ _=>trivial) () _ (by rw [a50])
     exact ⟨rd3,wr3,sw3,e1,e2,e3⟩
   obtain ⟨rd3,wr3,sw3,e1,e2,e3⟩:=hfin
   obtain ⟨st3,rd4,wr4,⟨rfl,hrd,hwr⟩,hL⟩:=b2w (V:=V) (P:=P) (G:=G) (N:=N) (d:=d) (act:= .call f args tys) (st:=st) (K:=fun s2 r2 w2=>s2=b0g (if a0v res then st1' else st2') N d res/\(∀ t∈r2,t∈d.toList++a0t st (args.map (·.2)))/\(∀ t∈w2,t∈d.toList++a0t st (args.map (·.2)))) (by
    refine ⟨_,_,_,res,a1,c1,hA,hn,e1,fun i hi=> ?_,rfl,fun t ht=> ?_,fun t ht=> ?_⟩
    ·cases ha:args[i]? with
     | none=>simp at ha; omega
     | some p=>
      obtain ⟨b,x⟩:=p
      cases b with
      | true=>exact c4 _ (a4 i x ha)
      | false=>exact c5 i x ha
    ·simp only [List.mem_append] at ht
     rcases ht with ((ht | ht) | ht) | ht
     ·exact a2 t ht
     ·exact c2 t ht
     ·exact c3 t ht
     ·exact e2 t ht
    ·split at ht<;>simp only [List.mem_append] at ht
     ·rcases ht with ht | ht
      ·exact a3 t ht
      ·exact e3 t ht
     ·rcases ht with (ht | ht) | ht
      ·exact a3 t ht
      ·exact c3 t ht
      ·exact e3 t ht)
   exact hL.widen hrd hwr hN hW hf
end
def b4l (st:St) (N:Nat) (T:List (Nat×AV)) (d:Option Nat) (res:AV):St:=match d with
 | some d=>(st.lentS N T).thru N d res
 | none=>st.lentS N T
theorem a79 {α:Type} {T:List (Nat×α)} {t:Nat} {v:α} (h:T.lookup t=some v):(t,v)∈T:=by
 induction T with
 | nil=>simp at h
 | cons p T ih=>
  obtain ⟨u,x⟩:=p
  by_cases h2:t=u
  ·subst h2
   simp at h
   simp [h]
  ·have:(t==u)=false:=by simpa using h2
   simp only [List.lookup_cons,this] at h
   exact List.mem_cons_of_mem _ (ih h)
def c2l:AV->Bool
 | .lit _=>true
 | _=>false
def a4c (rd:List Nat):X->Bool
 | .t n=>rd.contains n
 | _=>true
def b6p (st:St) (rd:List Nat) (args:List (Bool×X)):Bool:=args.all fun p=> !p.1&&(c2l (rdv st p.2)&&a4c rd p.2)
def a08 (st:St) (j:Nat):List (Bool×X)->St
 | []=>st
 | p::ps=>a08 (st.put j (rdv st p.2)) (j+1) ps
mutual
def a2d (rd:List Nat):AV->Bool
 | .ref t _ _ _=>rd.contains t
 | .bor t _ _ _ _=>rd.contains t
 | .fn _ fs cs=>a2b rd fs&&a2b rd cs
 | _=>true
def a2b (rd:List Nat):List AV->Bool
 | []=>true
 | k::ks=>a2d rd k&&a2b rd ks
end
def b6n (st:St) (rd:List Nat) (n:Nat) (lay:List CS):Bool:=lay.all fun
 | .p k=>decide (k < n)
 | .x y=>a4c rd y&&a2d rd (xv st y)
 | .l _=>false
theorem c0g {v:AV} (h:c2l v=true):∃ u,v= .lit u:=by cases v<;>simp [c2l] at h; exact ⟨_,rfl⟩
theorem b63 {st:St} {j N:Nat} {v:AV} {x:X} (hx:∀ n,x= .t n->n < N) (hj:N<=j):rdv (st.put j v) x=rdv st x:=by
 cases x with
 | t n=>have:=hx n rfl; simp [rdv,show n≠j by omega]
 | _=>rfl
theorem a81 {N:Nat}:∀ (args:List (Bool×X)) (j:Nat) (st:St),(args.all fun p=> !p.1)=true->(a4e N j args).run st=some ((),st)
 | [],j,st,_=>rfl
 | (g,x)::xs,j,st,h=>by
  simp only [List.all_cons,Bool.and_eq_true,Bool.not_eq_true'] at h
  obtain ⟨rfl,h2⟩:=h
  simp only [a4e,Bool.false_eq_true,if_false,Ev.run_bind,Ev.run_pure,Option.bind]
  exact a81 xs (j+1) st h2
theorem a7w {N:Nat}:∀ (args:List (Bool×X)) (j:Nat) (st:St),N<=j->(∀ p∈args,p.1=false/\c2l (rdv st p.2)=true/\∀ n,p.2= .t n->n < N)->(a2s N j args).run st=some ((),a08 st j args)
 | [],j,st,_,_=>rfl
 | (g,x)::xs,j,st,hj,h=>by
  obtain ⟨h1,h2,h3⟩:=h _ (List.mem_cons_self ..)
  simp only at h1 h2 h3
  subst h1
  obtain ⟨u,hu⟩:=c0g h2
  have hp:(b3n N x j).run st=some ((),st.put j (rdv st x)):=by
   unfold b3n
   simp only [Ev.run_bind,a0o,hu,Option.bind,noRef,a0d,if_true]
   cases x<;>simp [a2l,a0i,frz,a5e]
  simp only [a2s,Bool.false_eq_true,if_false,Ev.run_bind,hp,Option.bind,a08]
  refine a7w xs (j+1) _ (by omega) fun p hp2=> ?_
  obtain ⟨k1,k2,k3⟩:=h p (List.mem_cons_of_mem _ hp2)
  exact ⟨k1,by rw [b63 k3 hj]; exact k2,k3⟩
theorem a8t {N:Nat}:∀ (args:List (Bool×X)) (j:Nat) (st:St),(∀ t,t < j->(a08 st j args).s t=st.s t)
 | [],j,st,t,_=>rfl
 | p::ps,j,st,t,ht=>by
  rw [a08,a8t (N:=N) ps (j+1) _ t (by omega)]
  simp [show t≠j by omega]
theorem b0u:∀ (args:List (Bool×X)) (j:Nat) (st:St) (N:Nat),N<=j->(∀ p∈args,c2l (rdv st p.2)=true/\∀ n,p.2= .t n->n < N)->∀ t,(a08 st j args).ep t=st.ep t
 | [],j,st,N,_,_,t=>rfl
 | p::ps,j,st,N,hj,h,t=>by
  obtain ⟨h1,h2⟩:=h _ (List.mem_cons_self ..)
  obtain ⟨u,hu⟩:=c0g h1
  rw [a08,b0u ps (j+1) _ N (by omega) (fun q hq=>by
   obtain ⟨k1,k2⟩:=h q (List.mem_cons_of_mem _ hq)
   exact ⟨by rw [b63 k2 hj]; exact k1,k2⟩) t]
  simp [hu,St.put_ep,a0l]
theorem a7j {N:Nat}:∀ (args:List (Bool×X)) (j:Nat) (st:St),N<=j->(∀ p∈args,∀ n,p.2= .t n->n < N)->∀ i p,args[i]? =some p->(a08 st j args).s (j+i)=rdv st p.2
 | [],j,st,_,_,i,p,h=>by simp at h
 | q::ps,j,st,hj,hx,i,p,h=>by
  rw [a08]
  cases i with
  | zero=>
   simp only [List.getElem?_cons_zero,Option.some.injEq] at h
   subst h
   rw [a8t (N:=N) ps (j+1) _ (j+0) (by omega)]
   simp
  | succ i=>
   have:=a7j ps (j+1) (st.put j (rdv st q.2)) (by omega) (fun p hp=>hx p (List.mem_cons_of_mem _ hp)) i p (by simpa using h)
   rw [show j+(i+1)=j+1+i by omega,this]
   exact b63 (hx p (List.mem_cons_of_mem _ (List.mem_of_getElem? (by simpa using h)))) hj
mutual
theorem b5g {stA stB:St} {rd:List Nat} {L:List (Nat×Nat)} (h:∀ t,t∈rd->stB.ep t=stA.ep t):∀ av,a2d rd av=true->trA stB L av=trA stA L av
 | .ref t q o e,hr=>by
  simp only [a2d,List.contains_iff_mem] at hr
  simp only [trA,h t hr]
 | .fn f fs cs,hr=>by
  simp only [a2d,Bool.and_eq_true] at hr
  simp only [trA,b1f h fs hr.1,b1f h cs hr.2]
 | .bor _ _ _ _ _,_=>by simp only [trA]
 | .dead,_ | .lit _,_ | .sl _ _,_ | .ip _ _,_ | .own _ _ _,_ | .var _,_ | .agg _,_ | .tup _,_ | .ifc _ _,_ | .mp _ _,_ | .loan _,_=>by simp only [trA]
theorem b1f {stA stB:St} {rd:List Nat} {L:List (Nat×Nat)} (h:∀ t,t∈rd->stB.ep t=stA.ep t):∀ ks,a2b rd ks=true->trL stB L ks=trL stA L ks
 | [],_=>by simp only [trL]
 | k::ks,hr=>by
  simp only [a2b,Bool.and_eq_true] at hr
  simp only [trL,b5g h k hr.1,b1f h ks hr.2]
end
theorem b3m {N:Nat} {s1 s2 t1 t2:St} {rd:List Nat} (h:∀ t,t∈rd->t1.s t=s1.s t/\t2.s t=s2.s t/\t2.ep t=s2.ep t):∀ (es:List (Option Nat×AV)) (acc:List AV) (L:List (Nat×Nat)),(∀ p∈es,a2d rd p.2=true)->pX N t1 t2 acc L es=pX N s1 s2 acc L es
 | [],acc,L,_=>by simp only [pX]
 | (some k,av)::es,acc,L,hr=>by
  have ih:∀ a l,pX N t1 t2 a l es=pX N s1 s2 a l es:=fun a l=>b3m h es a l fun p hp=>hr p (List.mem_cons_of_mem _ hp)
  simp only [pX,ih]
 | (none,av)::es,acc,L,hr=>by
  have ih:∀ a l,pX N t1 t2 a l es=pX N s1 s2 a l es:=fun a l=>b3m h es a l fun p hp=>hr p (List.mem_cons_of_mem _ hp)
  have h0:=hr _ (List.mem_cons_self ..)
  simp only at h0
  have gen:∀ av,a2d rd av=true->trA t2 L av=trA s2 L av:=fun av ha=>b5g (fun t ht=>(h t ht).2.2) av ha
  cases av with
  | ref t q o e=>
   have ht:t∈rd:=by simpa [a2d] using h0
   obtain ⟨a1,a2,a3⟩:=h t ht
   cases q with
   | nil=>
    cases o with
    | zero=>simp only [pX,ih,a1,a2,a3]
    | succ o=>simp only [pX,gen _ h0,ih]
   | cons i q=>simp only [pX,gen _ h0,ih]
  | bor t q lo n e=>
   have ht:t∈rd:=by simpa [a2d] using h0
   obtain ⟨a1,a2,a3⟩:=h t ht
   cases q with
   | nil=>
    cases lo with
    | zero=>simp only [pX,ih,a1,a2,a3]
    | succ o=>simp only [pX,gen _ h0,ih]
   | cons i q=>simp only [pX,gen _ h0,ih]
  | _=>simp only [pX,gen _ h0,ih]
theorem c0i {V:List (Nat×Nat)} {P:Program} {G:GG} {N:Nat} {st:St} {d:Option Nat} {cv:X} {args:List (Bool×X)} {lay:List CS} {tys:List TypeId} {f:FuncId} {fs cs pre:List AV} {L:List (Nat×Nat)} {res:AV} {posts:List (Nat×AV)} {rd:List Nat}
  (ha:b6p st rd args=true) (hcv:a4c rd cv=true) (hfn:xv st cv= .fn f fs cs) (hfB:fnB P f=true) (hri:(a2b rd fs&&a2b rd cs)=true) (hlay:b6n st rd args.length lay=true)
  (hpx:pX N st (a08 st (N+2) args) [] [] (b26 N (a08 st (N+2) args) fs lay cs)=some (pre,L)) (hA:ACallsX P G f pre res posts) (hnr:noRef res=true) (hpo:posts.map (·.1)=L.map (·.2)) (hvar:∀ i av,(i,av)∈posts->∃ ks,av= .var ks/\a0j ks=true/\∃ ks0,pre[i]? =some (.var ks0))
  (hrd:∀ t∈rd,t < N) (hd:∀ t∈d.toList,t < N) (hL:∀ t∈L.map (·.1),t < N/\t∈rd) :
  Loc P G N V (b1o P G N d (.callx cv args lay tys)) st (b4l st N ((L.map (·.1)).zip (posts.map (·.2))) d res) (d.toList++rd) (d.toList++L.map (·.1)):=by
 have hT:∀ t q,a63 ((L.map (·.1)).zip (posts.map (·.2))) t q=false:=by
  intro t q
  unfold a63
  split
  ·rename_i i q' ks hl
   have hm:=(List.of_mem_zip (a79 hl)).2
   obtain ⟨p,hp,hpe⟩:=List.mem_map.1 hm
   obtain ⟨ks',he,hno,_⟩:=hvar p.1 p.2 hp
   rw [hpe] at he
   injection he with he
   subst he
   simp [hno]
  ·rename_i i q' sz n ks hl
   have hm:=(List.of_mem_zip (a79 hl)).2
   obtain ⟨p,hp,hpe⟩:=List.mem_map.1 hm
   obtain ⟨ks',he,_⟩:=hvar p.1 p.2 hp
   rw [hpe] at he
   cases he
  ·rfl
 have run:∀ s:St,(∀ t,t∈d.toList++rd\/t∈d.toList++L.map (·.1)->agr st s t)->∀ K:St->Prop,K (b4l s N ((L.map (·.1)).zip (posts.map (·.2))) d res)->b1o P G N d (.callx cv args lay tys) K s:=by
  intro s hag K hK
  have hrs:∀ t,t∈rd->agr st s t:=fun t ht=>hag t (.inl (List.mem_append.2 (.inr ht)))
  have hx:∀ x,a4c rd x=true->rdv s x=rdv st x/\xv s x=xv st x/\∀ n,x= .t n->n < N:=fun x hx=>by
   cases x with
   | t n=>
    have hn:n∈rd:=by simpa [a4c] using hx
    refine ⟨(hrs n hn).1,(hrs n hn).1,fun m hm=> ?_⟩
    injection hm with hm
    subst hm
    exact hrd _ hn
   | _=>exact ⟨rfl,rfl,fun _ h=>by cases h⟩
  have hargs:∀ p∈args,p.1=false/\c2l (rdv s p.2)=true/\(∀ n,p.2= .t n->n < N)/\rdv s p.2=rdv st p.2:=fun p hp=>by
   have:=List.all_eq_true.1 ha p hp
   simp only [Bool.and_eq_true,Bool.not_eq_true'] at this
   obtain ⟨k1,k2,k3⟩:=this
   obtain ⟨e1,_,e3⟩:=hx _ k3
   exact ⟨k1,by rw [e1]; exact k2,e3,e1⟩
  have hargs0:∀ p∈args,c2l (rdv st p.2)=true/\∀ n,p.2= .t n->n < N:=fun p hp=>by
   obtain ⟨_,k2,k3,k4⟩:=hargs p hp
   exact ⟨by rw [<-k4]; exact k2,k3⟩
  have hg:=a81 (N:=N) args (N+2) s (List.all_eq_true.2 fun p hp=>by simp [(hargs p hp).1])
  have hp:=a7w (N:=N) args (N+2) s (by omega) fun p hp=>⟨(hargs p hp).1,(hargs p hp).2.1,(hargs p hp).2.2.1⟩
  have hep:=b0u args (N+2) s N (by omega) fun p hp=>⟨(hargs p hp).2.1,(hargs p hp).2.2.1⟩
  have hep0:=b0u args (N+2) st N (by omega) hargs0
  have hps:=a8t (N:=N) args (N+2) s
  have hps0:=a8t (N:=N) args (N+2) st
  have hxv:∀ (s:St) (y:X),(∀ n,y= .t n->n < N)->xv (a08 s (N+2) args) y=xv s y:=fun s y hy=>by
   cases y with
   | t n=>exact a8t (N:=N) args (N+2) s n (by have:=hy n rfl; omega)
   | _=>rfl
  have hcv2:xv (a08 s (N+2) args) cv= .fn f fs cs:=by rw [hxv s cv (hx cv hcv).2.2,(hx cv hcv).2.1]; exact hfn
  have hlay2:lay.map (b7n N (a08 s (N+2) args))=lay.map (b7n N (a08 st (N+2) args)):=by
   apply List.map_congr_left
   intro c hc
   have:=List.all_eq_true.1 hlay c hc
   cases c with
   | p k=>
    have hk:k < args.length:=by simpa using this
    have h1:=a7j (N:=N) args (N+2) s (by omega) (fun p hp=>(hargs p hp).2.2.1) k args[k] (by simp [hk])
    have h2:=a7j (N:=N) args (N+2) st (by omega) (fun p hp=>(hargs p hp).2.2.1) k args[k] (by simp [hk])
    simp only [b7n,h1,h2,(hargs _ (List.getElem_mem hk)).2.2.2]
   | x y=>
    simp only [Bool.and_eq_true] at this
    have hy:=hx y this.1
    simp only [b7n,hxv s y hy.2.2,hxv st y hy.2.2,hy.2.1]
   | l t=>cases this
  have heff:b26 N (a08 s (N+2) args) fs lay cs=b26 N (a08 st (N+2) args) fs lay cs:=by simp only [b26,hlay2]
  simp only [Bool.and_eq_true] at hri
  have hrefL:∀ ks:List AV,a2b rd ks=true->∀ k∈ks,a2d rd k=true:=by
   intro ks
   induction ks with
   | nil=>intro _ k hk; simp at hk
   | cons k ks ih=>
    intro h k' hk'
    simp only [a2b,Bool.and_eq_true] at h
    rcases List.mem_cons.1 hk' with rfl | hk'
    ·exact h.1
    ·exact ih h.2 k' hk'
  have hrefs:∀ p∈b26 N (a08 st (N+2) args) fs lay cs,a2d rd p.2=true:=by
   intro p hp
   simp only [b26,List.mem_append,List.mem_map] at hp
   rcases hp with ⟨k,hk,rfl⟩ | ⟨c,hc,rfl⟩ | ⟨k,hk,rfl⟩
   ·exact hrefL fs hri.1 k hk
   ·have:=List.all_eq_true.1 hlay c hc
    cases c with
    | p k=>
     have hk:k < args.length:=by simpa using this
     have h2:=a7j (N:=N) args (N+2) st (by omega) (fun p hp=>(hargs p hp).2.2.1) k args[k] (by simp [hk])
     obtain ⟨u,hu⟩:=c0g (hargs0 _ (List.getElem_mem hk)).1
     simp only [b7n,h2,hu,a2d]
    | x y=>
     simp only [Bool.and_eq_true] at this
     simp only [b7n,hxv st y (hx y this.1).2.2]
     exact this.2
    | l t=>cases this
   ·exact hrefL cs hri.2 k hk
  have hpx2:pX N s (a08 s (N+2) args) [] [] (b26 N (a08 s (N+2) args) fs lay cs)=some (pre,L):=by
   rw [heff,<-hpx]
   exact b3m (rd:=rd) (fun t ht=>⟨(hrs t ht).1,by rw [hps t (by have:=hrd t ht; omega),hps0 t (by have:=hrd t ht; omega)]; exact (hrs t ht).1,by rw [hep,hep0]; exact (hrs t ht).2⟩) _ _ _ hrefs
  have heq:∀ c:Bool,(if c=true then s else a08 s (N+2) args).lentS N ((L.map (·.1)).zip (posts.map (·.2)))=s.lentS N ((L.map (·.1)).zip (posts.map (·.2))):=by
   intro c
   cases c
   ·refine St.ext' (fun u=> ?_) (fun u=>hep u)
    simp only [St.lentS,Bool.false_eq_true,if_false]
    by_cases hu:u < N
    ·simp only [hu,if_true,hps u (by omega)]
    ·simp only [hu,if_false]
   ·rfl
  simp only [b1o,b7l]
  refine ⟨f,fs,cs,s,a08 s (N+2) args,L,pre,res,posts,_,hg,hp,hcv2,hfB,hpx2,hA,hnr,hpo,fun i av hm=>(by obtain ⟨ks,rfl,_,ks0,h0⟩:=hvar i av hm; exact ⟨_,h0,trivial⟩),?_,hK⟩
  rw [heq]
  cases d with
  | none=>simp only [b5n,Ev.run_pure,b4l]
  | some d=>simp only [b5n,a50,b4l]
 have low:∀ s:St,∀ t,t < N->t ∉ d.toList++L.map (·.1)->agr s (b4l s N ((L.map (·.1)).zip (posts.map (·.2))) d res) t:=by
  intro s t ht hn
  simp only [List.mem_append,not_or] at hn
  have hlk:((L.map (·.1)).zip (posts.map (·.2))).lookup t=none:=by
   cases hl:((L.map (·.1)).zip (posts.map (·.2))).lookup t with
   | none=>rfl
   | some av=>exact absurd (List.of_mem_zip (a79 hl)).1 hn.2
  have hlent:agr s (s.lentS N ((L.map (·.1)).zip (posts.map (·.2)))) t:=by
   refine ⟨?_,rfl⟩
   simp only [St.lentS,ht,if_true,hlk]
   have:a63 ((L.map (·.1)).zip (posts.map (·.2)))=fun _ _=>false:=by funext a b; exact hT a b
   rw [this,a2z]
  cases d with
  | none=>exact hlent
  | some d=>
   have htd:t≠d:=by simpa using hn.1
   simp only [b4l]
   exact ((hlent.trans (agr.putn _ (by omega))).trans (agr.putn _ (by omega))).trans (agr.putn _ htd)
 refine ⟨fun t ht=> ?_,fun t ht hn=>low st t ht hn,fun s _ hag K hK=>run s hag K (hK _ (fun t ht=> ?_) fun t ht hn=>low s t ht hn)⟩
 ·rcases ht with ht | ht<;>rcases List.mem_append.1 ht with ht | ht
  ·exact hd t ht
  ·exact hrd t ht
  ·exact hd t ht
  ·exact (hL t ht).1
 ·have hgt:=hag t (.inr ht)
  have htN:t < N:=by
   rcases List.mem_append.1 ht with ht | ht
   ·exact hd t ht
   ·exact (hL t ht).1
  have hlent:agr (st.lentS N ((L.map (·.1)).zip (posts.map (·.2)))) (s.lentS N ((L.map (·.1)).zip (posts.map (·.2)))) t:=by
   refine ⟨?_,hgt.2⟩
   simp only [St.lentS,htN,if_true,hgt.1]
  cases d with
  | none=>exact hlent
  | some d=>
   simp only [b4l]
   exact ((hlent.put _).put _).put _
def wrE (v:AV) (x:X):List Nat:=if a0i v=true then [] else slX x
def Wop (st:St) (d:Option Nat):IOp->List Nat
 | .asg x=>d.toList++b5m st x
 | .mva x=>d.toList++slX x
 | .mvf x=>d.toList++slX x
 | .box _ _ x=>d.toList++slX x
 | .build _ _ parts=>d.toList++slL (parts.map fun p=>p.2.2.2)
 | .bslice _ _ _ _ _ parts=>d.toList++slL (parts.map fun p=>p.2)
 | .store _ _ x y=>b5m st x++slX y
 | .app _ _ _ _ x y=>d.toList++a0t st [x,y]
 | .mki _ x=>d.toList++slX x
 | .ext x _=>d.toList++wrE (rdv st x) x
 | .mset _ _ x _ _=>b5m st x
 | _=>d.toList
def c1f (b:Bool) (p q:Prop):Prop:=if b then p else q
abbrev DA:=List (List Nat)×List (Nat×Nat)
def a5l (V:List (Nat×Nat)) (st:St) (xs:List X):IOp->List Nat
 | .mv (.t t)=>if V.any (fun p=>p.1==t) then [] else a0t st xs
 | _=>a0t st xs
def e2q (N:Nat) (aft:DA) (fps:List (List Nat×List Nat)) (K:St->Prop) (st:St):Prop:=b2d aft.1 fps=true/\∀ st',(∀ t,t < N->agr st st' t)->K st'
section
variable (P:Program) (G:GG) (N:Nat) (aft:DA)
def b9u (ex:List Nat) (d:Option Nat) (act:IAct) (fps:List (List Nat×List Nat)) (Kn:List (List Nat×List Nat)->St->Prop) (st:St):Prop:=match act with
 | .op i=>match a9i i,evS G N d i st with
  | some xs,some st'=>c1f (c9u N st i) ((∀ t∈ex++(d.toList++a0t st xs),t < N)/\(∀ t∈Wop st d i,t < N)/\fr N (Wop st d i) st st'/\Kn (fps++[(ex++(d.toList++a5l aft.2 st xs i),Wop st d i)]) st')
   ((∀ t∈ex++(d.toList++a0t st xs),t < N)/\Kn (fps++[(ex++List.range N,List.range N)]) st')
  | _,_=>False
 | .call f args _=>match gvs N (N+2) args (some st) with
  | some st1=>match pss N (N+2) args (some st1) with
   | some st2=>∃ res W,ACalls P G f (a34 N args.length st2) res/\noRef res=true/\(∀ t∈ex++(d.toList++a0t st (args.map (·.2))),t < N)/\(∀ t∈W,t < N)/\fr N W st (b0g (if a0v res then st1 else st2) N d res)/\
    Kn (fps++[(ex++(d.toList++a0t st (args.map (·.2))),W)]) (b0g (if a0v res then st1 else st2) N d res)
   | none=>False
  | none=>False
 | .callx cv args lay _=>∃ f fs cs pre L res posts rd,b6p st rd args=true/\a4c rd cv=true/\xv st cv= .fn f fs cs/\fnB P f=true/\(a2b rd fs&&a2b rd cs)=true/\b6n st rd args.length lay=true/\
   pX N st (a08 st (N+2) args) [] [] (b26 N (a08 st (N+2) args) fs lay cs)=some (pre,L)/\ACallsX P G f pre res posts/\noRef res=true/\posts.map (·.1)=L.map (·.2)/\(∀ i av,(i,av)∈posts->∃ ks,av= .var ks/\a0j ks=true/\∃ ks0,pre[i]? =some (.var ks0))/\
   (∀ t∈ex++rd,t < N)/\(∀ t∈d.toList,t < N)/\(∀ t∈L.map (·.1),t < N/\t∈rd)/\Kn (fps++[(ex++(d.toList++rd),d.toList++L.map (·.1))]) (b4l st N ((L.map (·.1)).zip (posts.map (·.2))) d res)
 | .nilq _ _ _=>False
 | .bad _=>False
def a6n:List AO->List (List Nat×List Nat)->(St->Prop)->St->Prop
 | [],fps,K,st=>e2q N aft fps K st
 | io::rest,fps,K,st=>match io.g with
  | none=>b9u P G N aft [] io.dst io.act fps (fun fps st=>a6m aft.2 st/\a6n rest fps K st) st
  | some (_,t,want)=>match st.s t with
   | .lit v=>if b13 want v then b9u P G N aft [t] io.dst io.act fps (fun fps st=>a6m aft.2 st/\a6n rest fps K st) st else (∀ u∈t::io.dst.toList,u < N)/\a6m aft.2 (a2c io.dst st)/\a6n rest (fps++[([t],io.dst.toList)]) K (a2c io.dst st)
   | _=>False
end
section
variable {P:Program} {G:GG} {N:Nat} {aft:DA}
theorem b7o {ex:List Nat} {d:Option Nat} {act:IAct} {fps:List (List Nat×List Nat)} {Kn:List (List Nat×List Nat)->St->Prop} {st:St} (hI:a6m aft.2 st) (h:b9u P G N aft ex d act fps Kn st):∃ st' rd wr,Loc P G N aft.2 (b1o P G N d act) st st' rd wr/\(∀ t∈ex,t < N)/\Kn (fps++[(ex++rd,wr)]) st':=by
 cases act with
 | op i=>
  simp only [b9u] at h
  split at h
  ·rename_i xs st' ho he
   unfold c1f at h
   split at h
   ·rename_i hb
    obtain ⟨h1,h2,h4,h5⟩:=h
    have gen:a5l aft.2 st xs i=a0t st xs->∃ st' rd wr,Loc P G N aft.2 (b1o P G N d (.op i)) st st' rd wr/\(∀ t∈ex,t < N)/\Kn (fps++[(ex++rd,wr)]) st':=fun e=>⟨st',_,_,d3s (V:=aft.2) ho he (fun t ht=>h1 t (List.mem_append.2 (.inr ht))) h2 (c58 hb) h4,fun t ht=>h1 t (List.mem_append.2 (.inl ht)),by rw [e] at h5; exact h5⟩
    by_cases hm:∃ t,i= .mv (.t t)/\(aft.2.any fun p=>p.1==t)=true
    ·obtain ⟨t,rfl,ht⟩:=hm
     have e:a5l aft.2 st xs (.mv (.t t))=[]:=by simp only [a5l,ht,if_true]
     rw [e,List.append_nil] at h5
     obtain ⟨p,hp,hpt⟩:=List.any_eq_true.1 ht
     have hpt:p.1=t:=by simpa using hpt
     subst hpt
     cases d with
     | none=>
      exfalso
      have:=(hI p hp).1
      cases hv:st.s p.1<;>simp only [hv,b4q,reduceCtorEq] at this
      simp [evS,a0w,mvE,Ev.run_bind,a0o,rdv,hv,a9z,Ev.run,setD,Option.bind] at he
     | some d=>
      obtain ⟨q1,q2⟩:=c5n (P:=P) (G:=G) (N:=N) hI hp (h2 d (by simp [Wop])) he
      exact ⟨st',_,_,q1,fun t ht=>h1 t (List.mem_append.2 (.inl ht)),h5⟩
    ·refine gen ?_
     unfold a5l
     split
     ·rename_i t
      rw [if_neg]
      intro hc
      exact hm ⟨t,rfl,hc⟩
     ·rfl
   ·obtain ⟨h1,h5⟩:=h
    exact ⟨st',_,_,c2o ho he (fun t ht=>h1 t (List.mem_append.2 (.inr ht))),fun t ht=>h1 t (List.mem_append.2 (.inl ht)),h5⟩
  ·exact h.elim
 | call f args tys=>
  simp only [b9u] at h
  split at h
  ·rename_i st1 hg
   split at h
   ·rename_i st2 hp
    obtain ⟨res,W,h1,h2,h3,h4,h5,h6⟩:=h
    exact ⟨_,_,_,c2n hg hp h1 h2 (fun t ht=>h3 t (List.mem_append.2 (.inr ht))) h4 h5,fun t ht=>h3 t (List.mem_append.2 (.inl ht)),h6⟩
   ·exact h.elim
  ·exact h.elim
 | callx cv args lay tys=>
  simp only [b9u] at h
  obtain ⟨f,fs,cs,pre,L,res,posts,rd,h1,h2,h3,h4,h5,h6,h7,h8,h9,h10,h11,h12,h13,h14,h15⟩:=h
  exact ⟨_,_,_,c0i h1 h2 h3 h4 h5 h6 h7 h8 h9 h10 h11 (fun t ht=>h12 t (List.mem_append.2 (.inr ht))) h13 h14,fun t ht=>h12 t (List.mem_append.2 (.inl ht)),h15⟩
 | nilq T x yT=>exact h.elim
 | bad o=>exact h.elim
theorem a7i:∀ (ios:List AO) (fps:List (List Nat×List Nat)) (K:St->Prop) (st:St),a6m aft.2 st->a6n P G N aft ios fps K st->dCh P G N aft.2 ios fps (fun stn fps=>b2d aft.1 fps=true/\∀ st',(∀ t,t < N->agr stn st' t)->K st') st
 | [],fps,K,st,hI,h=>h
 | io::rest,fps,K,st,hI,h=>by
  simp only [a6n] at h
  simp only [dCh]
  cases hg:io.g with
  | none=>
   simp only [hg] at h
   obtain ⟨st',rd,wr,hL,_,hI',hK⟩:=b7o hI h
   refine ⟨st',rd,wr,?_,hI',by simpa using a7i rest _ K st' hI' hK⟩
   have:a74 P G N io=b1o P G N io.dst io.act:=by funext K st; simp only [a74,hg]
   rw [this]; exact hL
  | some g=>
   obtain ⟨j,t,want⟩:=g
   simp only [hg] at h
   split at h
   ·rename_i v hv
    split at h
    ·rename_i hw
     obtain ⟨st',rd,wr,hL,hex,hI',hK⟩:=b7o hI h
     refine ⟨st',t::rd,wr,?_,hI',by simpa using a7i rest _ K st' hI' hK⟩
     exact {
      lt:=fun u hu=>by
       rcases hu with hu | hu
       ·rcases List.mem_cons.1 hu with rfl | hu
        ·exact hex _ (by simp)
        ·exact hL.lt u (.inl hu)
       ·exact hL.lt u (.inr hu)
      frame:=hL.frame
      loc:=fun st2 hV2 hst K2 hK2=>by
       have h1:st2.s t= .lit v:=by rw [(hst t (.inl (by simp))).1,hv]
       simp only [a74,hg,h1,hw,if_true]
       exact hL.loc st2 hV2 (fun u hu=>hst u (hu.imp (List.mem_cons_of_mem _) id)) K2 hK2 }
    ·rename_i hw
     obtain ⟨hN,hI',hK⟩:=h
     refine ⟨_,_,_,?_,hI',a7i rest _ K _ hI' hK⟩
     exact {
      lt:=fun u hu=>hN u (by rcases hu with hu | hu<;>simp at hu ⊢<;>simp [hu])
      frame:=fun u hu hn=>by
       cases hd:io.dst with
       | none=>simp only [a2c]; exact agr.refl _ _
       | some d=>
        simp only [a2c]
        refine agr.putn _ ?_
        rintro rfl
        exact hn (by simp [hd])
      loc:=fun st2 hV2 hst K2 hK2=>by
       have h1:st2.s t= .lit v:=by rw [(hst t (.inl (by simp))).1,hv]
       simp only [a74,hg,h1,hw,Bool.false_eq_true,if_false]
       cases hd:io.dst with
       | none=>
        rw [hd] at hK2
        simp only [a2c] at hK2 ⊢
        exact hK2 _ (fun u hu=>by simp at hu) (fun u _ _=>agr.refl _ _)
       | some d=>
        rw [hd] at hK2 hst
        simp only [a2c] at hK2 ⊢
        refine hK2 _ (fun u hu=> ?_) (fun u _ hn=>agr.putn _ (by rintro rfl; exact hn (by simp)))
        have:u=d:=by simpa using hu
        subst this
        exact (hst u (.inr (by simp))).put _ }
   ·exact h.elim
end
end Go.Ideal
end
