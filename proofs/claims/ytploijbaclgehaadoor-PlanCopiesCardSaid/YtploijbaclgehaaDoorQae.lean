/- Part Qae of the proof: walks on a machine that is proved sound. -/
import Derived.Test.YtploijbaclgehaaDoorQad
set_option linter.unusedVariables false
set_option linter.unusedSimpArgs false
section
namespace Go.Ideal
section
variable {G:GG} {N d:Nat} {st:St}
def tkB (st:St) (N t:Nat) (q:List Nat) (lo n:Nat) (k:Option AV):Option (St×Nat×Nat×List AV):=match k with
 | some (.own sz n0 ks)=>gO (lo=0/\t < N/\n<=n0) (some (st.set t (a0h (st.s t) q .dead),sz,n,ks.take (n*sz)))
 | _=>none
@[congr] theorem d7j {t:Nat} {q:List Nat} {lo n:Nat} {k k':Option AV} (h:k=k'):tkB st N t q lo n k=tkB st N t q lo n k':=by rw [h]
@[go_sem] theorem e8b {t:Nat} {q:List Nat} {lo n sz n0:Nat} {ks:List AV}:tkB st N t q lo n (some (.own sz n0 ks))=gO (lo=0/\t < N/\n<=n0) (some (st.set t (a0h (st.s t) q .dead),sz,n,ks.take (n*sz))):=(rfl)
def tkS (st:St) (N:Nat) (x:X) (v:AV):Option (St×Nat×Nat×List AV):=match v with
 | .own sz n ks=>match x with
  | .t t=>some (st.put t .dead,sz,n,ks)
  | _=>some (st,sz,n,ks)
 | .bor t q lo n e=>tkB st N t q lo n (a1j st t q e)
 | _=>none
@[congr] theorem d7k {x:X} {v v':AV} (h:v=v'):tkS st N x v=tkS st N x v':=by rw [h]
@[go_sem] theorem e8d {t sz n:Nat} {ks:List AV}:tkS st N (.t t) (.own sz n ks)=some (st.put t .dead,sz,n,ks):=(rfl)
@[go_sem] theorem f2d {t sz n:Nat} {ks:List AV}:tkS st N (.nl t) (.own sz n ks)=some (st,sz,n,ks):=(rfl)
@[go_sem] theorem e8c {x:X} {t:Nat} {q:List Nat} {lo n e:Nat}:tkS st N x (.bor t q lo n e)=tkB st N t q lo n (a1j st t q e):=(rfl)
theorem b5p (x:X):(b7q x N).run st=(tkS st N x (rdv st x)).map fun r=>((),r.1.put N (.own r.2.1 r.2.2.1 r.2.2.2)):=by
 simp only [b7q,Ev.run_bind,a0n,Option.bind]
 cases hv:rdv st x<;>try rfl
 ·cases x<;>rfl
 ·rename_i t q lo n e
  simp only [tkS,Ev.run_bind,a07,Option.bind,a0d]
  by_cases he:e=st.ep t
  ·subst he
   simp only [a1j,if_true,beq_self_eq_true,Bool.true_and]
   cases hk:a0c (st.s t) q with
   | none=>
    simp only [tkB,Option.map]
    generalize (lo==0&&decide (t < N))=b
    cases b
    ·rfl
    ·simp only [if_true,a0q,hk]; rfl
   | some k=>
    by_cases h1:lo=0
    ·by_cases h2:t < N
     ·simp only [h1,h2,beq_self_eq_true,decide_true,Bool.and_self,if_true,a0q,hk,Option.map]
      cases k<;>try rfl
      rename_i sz n0 ks
      simp only [tkB,gO,Ev.run_bind,a0d,Option.bind,h2,true_and]
      by_cases h3:n<=n0
      ·simp only [h3,decide_true,if_true]; rfl
      ·simp only [h3,decide_false,Bool.false_eq_true,if_false]
     ·simp only [h2,decide_false,Bool.and_false,Bool.false_eq_true,if_false]
      cases k<;>try rfl
      simp only [tkB,gO,h2,false_and,and_false,if_false]; rfl
    ·have:(lo==0)=false:=by simpa using h1
     simp only [this,Bool.false_and,Bool.false_eq_true,if_false]
     cases k<;>try rfl
     simp only [tkB,gO,h1,false_and,if_false]; rfl
  ·have:(e==st.ep t)=false:=by simpa using he
   simp only [this,Bool.false_and,Bool.false_eq_true,if_false,a1j,he]; rfl
def srB (st:St) (N t:Nat) (q:List Nat) (lo n:Nat) (k:Option AV):Option (St×AV):=match k with
 | some (.own sz n0 ks)=>gO (t < N/\lo+n<=n0) (some (st.set t (a0h (st.s t) q (frz (.own sz n0 ks))),.sl n (((a1b ks).drop (lo*sz)).take (n*sz))))
 | _=>none
@[congr] theorem d7b {t:Nat} {q:List Nat} {lo n:Nat} {k k':Option AV} (h:k=k'):srB st N t q lo n k=srB st N t q lo n k':=by rw [h]
@[go_sem] theorem e7z {t:Nat} {q:List Nat} {lo n sz n0:Nat} {ks:List AV}:srB st N t q lo n (some (.own sz n0 ks))=gO (t < N/\lo+n<=n0) (some (st.set t (a0h (st.s t) q (frz (.own sz n0 ks))),.sl n (((a1b ks).drop (lo*sz)).take (n*sz)))):=(rfl)
def srS (st:St) (N:Nat) (x:X) (v:AV):Option (St×AV):=match v with
 | .own sz n ks=>match x with
  | .t t=>some (st.put t .dead,.own sz n ks)
  | _=>some (st,.own sz n ks)
 | .sl n ks=>some (st,.sl n ks)
 | .bor t q lo n e=>srB st N t q lo n (a1j st t q e)
 | _=>none
@[congr] theorem d7c {x:X} {v v':AV} (h:v=v'):srS st N x v=srS st N x v':=by rw [h]
@[go_sem] theorem e71 {t sz n:Nat} {ks:List AV}:srS st N (.t t) (.own sz n ks)=some (st.put t .dead,.own sz n ks):=(rfl)
@[go_sem] theorem f15 {t sz n:Nat} {ks:List AV}:srS st N (.nl t) (.own sz n ks)=some (st,.own sz n ks):=(rfl)
@[go_sem] theorem f16 {x:X} {n:Nat} {ks:List AV}:srS st N x (.sl n ks)=some (st,.sl n ks):=(rfl)
@[go_sem] theorem e70 {x:X} {t:Nat} {q:List Nat} {lo n e:Nat}:srS st N x (.bor t q lo n e)=srB st N t q lo n (a1j st t q e):=(rfl)
theorem c3h (x:X):(d0a x N).run st=(srS st N x (rdv st x)).map fun r=>((),r.1.put (N+1) r.2):=by
 simp only [d0a,Ev.run_bind,a0n,Option.bind]
 cases hv:rdv st x<;>try rfl
 ·cases x<;>rfl
 ·rename_i t q lo n e
  simp only [srS,Ev.run_bind,a07,Option.bind,a0d]
  by_cases he:e=st.ep t
  ·subst he
   simp only [a1j,if_true,beq_self_eq_true,Bool.true_and]
   cases hk:a0c (st.s t) q with
   | none=>
    simp only [srB,Option.map]
    generalize (decide (t < N))=b
    cases b
    ·rfl
    ·simp only [if_true,a0q,hk]; rfl
   | some k=>
    by_cases h2:t < N
    ·simp only [h2,decide_true,Bool.and_self,if_true,a0q,hk,Option.map]
     cases k<;>try rfl
     rename_i sz n0 ks
     simp only [srB,gO,Ev.run_bind,a0d,Option.bind,h2,true_and]
     by_cases h3:lo+n<=n0
     ·simp only [h3,decide_true,if_true]; rfl
     ·simp only [h3,decide_false,Bool.false_eq_true,if_false]
    ·simp only [h2,decide_false,Bool.and_false,Bool.false_eq_true,if_false]
     cases k<;>try rfl
     simp only [srB,gO,h2,false_and,and_false,if_false]; rfl
  ·have:(e==st.ep t)=false:=by simpa using he
   simp only [this,Bool.false_and,Bool.false_eq_true,if_false,a1j,he]; rfl
def apV (sz by_:Nat) (s y:AV):Option (AV):=match s,y with
 | .own sz1 n xs,.own sz2 m ys=>gO (sz1=sz/\sz2=sz/\(n+m)*by_<=140737488355328/\n+m<=140737488355328) (some (.own sz (n+m) (xs++ys)))
 | .own sz1 n xs,.sl m ys=>gO (sz1=sz/\ys.length=m*sz/\(n+m)*by_<=140737488355328/\n+m<=140737488355328) (some (.own sz (n+m) (xs++ys)))
 | _,_=>none
@[go_sem] theorem e2l {sz by_ sz1 sz2 n m:Nat} {xs ys:List AV}:apV sz by_ (.own sz1 n xs) (.own sz2 m ys)=gO (sz1=sz/\sz2=sz/\(n+m)*by_<=140737488355328/\n+m<=140737488355328) (some (.own sz (n+m) (xs++ys))):=(rfl)
@[go_sem] theorem e8t {sz by_ sz1 n m:Nat} {xs ys:List AV}:apV sz by_ (.own sz1 n xs) (.sl m ys)=gO (sz1=sz/\ys.length=m*sz/\(n+m)*by_<=140737488355328/\n+m<=140737488355328) (some (.own sz (n+m) (xs++ys))):=(rfl)
def apF (st:St) (N d:Nat) (o:Option AV):Option St:=match o with
 | some v=>some ((st.put (N+1) .dead).thru N d v)
 | none=>none
@[congr] theorem d0s {o o':Option AV} (h:o=o'):apF st N d o=apF st N d o':=by rw [h]
@[go_sem] theorem d70 {v:AV}:apF st N d (some v)=some ((st.put (N+1) .dead).thru N d v):=(rfl)
def ap2 (N d sz by_:Nat) (r:Option (St×AV)):Option St:=match r with
 | some (st2,v)=>apF (st2.put (N+1) v) N d (apV sz by_ ((st2.put (N+1) v).s N) v)
 | none=>none
@[congr] theorem d0r {sz by_:Nat} {r r':Option (St×AV)} (h:r=r'):ap2 N d sz by_ r=ap2 N d sz by_ r':=by rw [h]
@[go_sem] theorem d7z {sz by_:Nat} {v:AV}:ap2 N d sz by_ (some (st,v))=apF (st.put (N+1) v) N d (apV sz by_ ((st.put (N+1) v).s N) v):=(rfl)
def ap1 (N d sz by_:Nat) (y:X) (r:Option (St×Nat×Nat×List AV)):Option St:=match r with
 | some (st1,s,n,ks)=>ap2 N d sz by_ (srS (st1.put N (.own s n ks)) N y (rdv (st1.put N (.own s n ks)) y))
 | none=>none
@[congr] theorem d0q {sz by_:Nat} {y:X} {r r':Option (St×Nat×Nat×List AV)} (h:r=r'):ap1 N d sz by_ y r=ap1 N d sz by_ y r':=by rw [h]
@[go_sem] theorem d7y {sz by_ s n:Nat} {ks:List AV} {y:X}:ap1 N d sz by_ y (some (st,s,n,ks))=ap2 N d sz by_ (srS (st.put N (.own s n ks)) N y (rdv (st.put N (.own s n ks)) y)):=(rfl)
@[go_sem] theorem e3w {T e:TypeId} {sz by_:Nat} {x y:X}:evS G N (some d) (.app T e sz by_ x y) st=ap1 N d sz by_ y (tkS st N x (rdv st x)):=by
 simp only [evS,a0w,Ev.run_bind,b5p,Option.bind]
 cases tkS st N x (rdv st x) with
 | none=>rfl
 | some r=>
  obtain ⟨st1,s,n,ks⟩:=r
  simp only [Option.map,c3h,ap1]
  cases srS (st1.put N (.own s n ks)) N y (rdv (st1.put N (.own s n ks)) y) with
  | none=>rfl
  | some r=>
   obtain ⟨st2,v⟩:=r
   have h1:(st2.put (N+1) v).s (N+1)=v:=by simp
   simp only [a38,ap2,h1]
   have hown:∀ sz1 n xs sz2 m ys,((do
     a0f (sz1==sz&&sz2==sz&&decide ((n+m)*by_<=140737488355328)&&decide (n+m<=140737488355328))
     a2a (N+1) .dead
     a26 N (some d) (.own sz (n+m) (xs++ys)):Ev Unit).run (st2.put (N+1) v)).map (·.2)=apF (st2.put (N+1) v) N d (gO (sz1=sz/\sz2=sz/\(n+m)*by_<=140737488355328/\n+m<=140737488355328) (some (.own sz (n+m) (xs++ys)))):=by
    intro sz1 n xs sz2 m ys
    simp only [Ev.run_bind,a0d,Option.bind,gO]
    by_cases hc:sz1=sz/\sz2=sz/\(n+m)*by_<=140737488355328/\n+m<=140737488355328
    ·have:(sz1==sz&&sz2==sz&&decide ((n+m)*by_<=140737488355328)&&decide (n+m<=140737488355328))=true:=by
      simp only [Bool.and_eq_true,decide_eq_true_eq,beq_iff_eq]
      exact ⟨⟨⟨hc.1,hc.2.1⟩,hc.2.2.1⟩,hc.2.2.2⟩
     simp only [this,if_true,if_pos hc]; rfl
    ·have:(sz1==sz&&sz2==sz&&decide ((n+m)*by_<=140737488355328)&&decide (n+m<=140737488355328))=false:=by
      rw [Bool.eq_false_iff]; intro hh
      simp only [Bool.and_eq_true,decide_eq_true_eq,beq_iff_eq] at hh
      exact hc ⟨hh.1.1.1,hh.1.1.2,hh.1.2,hh.2⟩
     simp only [this,Bool.false_eq_true,if_false,if_neg hc]; rfl
   have hsl:∀ sz1 n xs m ys,((do
     a0f (sz1==sz&&decide (ys.length=m*sz)&&decide ((n+m)*by_<=140737488355328)&&decide (n+m<=140737488355328))
     a2a (N+1) .dead
     a26 N (some d) (.own sz (n+m) (xs++ys)):Ev Unit).run (st2.put (N+1) v)).map (·.2)=apF (st2.put (N+1) v) N d (gO (sz1=sz/\ys.length=m*sz/\(n+m)*by_<=140737488355328/\n+m<=140737488355328) (some (.own sz (n+m) (xs++ys)))):=by
    intro sz1 n xs m ys
    simp only [Ev.run_bind,a0d,Option.bind,gO]
    by_cases hc:sz1=sz/\ys.length=m*sz/\(n+m)*by_<=140737488355328/\n+m<=140737488355328
    ·have:(sz1==sz&&decide (ys.length=m*sz)&&decide ((n+m)*by_<=140737488355328)&&decide (n+m<=140737488355328))=true:=by
      simp only [Bool.and_eq_true,decide_eq_true_eq,beq_iff_eq]
      exact ⟨⟨⟨hc.1,hc.2.1⟩,hc.2.2.1⟩,hc.2.2.2⟩
     simp only [this,if_true,if_pos hc]; rfl
    ·have:(sz1==sz&&decide (ys.length=m*sz)&&decide ((n+m)*by_<=140737488355328)&&decide (n+m<=140737488355328))=false:=by
      rw [Bool.eq_false_iff]; intro hh
      simp only [Bool.and_eq_true,decide_eq_true_eq,beq_iff_eq] at hh
      exact hc ⟨hh.1.1.1,hh.1.1.2,hh.1.2,hh.2⟩
     simp only [this,Bool.false_eq_true,if_false,if_neg hc]; rfl
   cases hs:(st2.put (N+1) v).s N<;>try rfl
   cases v<;>first | rfl | exact hown _ _ _ _ _ _ | exact hsl _ _ _ _ _
def b8f (N:Nat):List (Nat×Nat×X)->St->Option St
 | [],st=>some st
 | (off,sz,x)::rest,st=>match giv st N x (rdv st x) with
  | some (st1,cs)=>match st1.s (N+1) with
   | .agg zs=>gO (cs.length=sz/\off+sz<=zs.length) (b8f N rest ((st1.put N .dead).put (N+1) (.agg (a0o zs off cs))))
   | _=>none
  | none=>none
@[congr] theorem c9h {l l':List (Nat×Nat×X)} {st':St} (hl:l=l') (h:st=st'):b8f N l st=b8f N l' st':=by rw [hl,h]
@[go_sem] theorem e07:b8f N [] st=some st:=(rfl)
def c9f (N off sz:Nat) (rest:List (Nat×Nat×X)) (st:St) (cs:List AV) (v:AV):Option St:=match v with
 | .agg zs=>gO (cs.length=sz/\off+sz<=zs.length) (b8f N rest ((st.put N .dead).put (N+1) (.agg (a0o zs off cs))))
 | _=>none
@[congr] theorem c9g {off sz:Nat} {rest:List (Nat×Nat×X)} {cs:List AV} {v v':AV} (h:v=v'):c9f N off sz rest st cs v=c9f N off sz rest st cs v':=by rw [h]
@[go_sem] theorem e06 {off sz:Nat} {rest:List (Nat×Nat×X)} {cs zs:List AV}:c9f N off sz rest st cs (.agg zs)=gO (cs.length=sz/\off+sz<=zs.length) (b8f N rest ((st.put N .dead).put (N+1) (.agg (a0o zs off cs)))):=(rfl)
def d5u (N off sz:Nat) (rest:List (Nat×Nat×X)) (r:Option (St×List AV)):Option St:=match r with
 | some (st1,cs)=>c9f N off sz rest st1 cs (st1.s (N+1))
 | none=>none
@[congr] theorem c9e {off sz:Nat} {rest:List (Nat×Nat×X)} {r r':Option (St×List AV)} (h:r=r'):d5u N off sz rest r=d5u N off sz rest r':=by rw [h]
@[go_sem] theorem d5v {off sz:Nat} {rest:List (Nat×Nat×X)} {cs:List AV}:d5u N off sz rest (some (st,cs))=c9f N off sz rest st cs (st.s (N+1)):=(rfl)
@[go_sem] theorem d5w {off sz:Nat} {x:X} {rest:List (Nat×Nat×X)}:b8f N ((off,sz,x)::rest) st=d5u N off sz rest (giv st N x (rdv st x)):=by
 simp only [b8f,d5u]
 cases giv st N x (rdv st x) with
 | none=>rfl
 | some r=>obtain ⟨st1,cs⟩:=r; simp only [c9f]
theorem a9t:∀ (l:List (Nat×Nat×X)) (st:St),(a52 N l).run st=(b8f N l st).map fun st=>((),st)
 | [],st=>rfl
 | (off,sz,x)::rest,st=>by
  simp only [a52,Ev.run_bind,a87,Option.bind,b8f]
  cases giv st N x (rdv st x) with
  | none=>rfl
  | some r=>
   obtain ⟨st1,cs⟩:=r
   have hN:(st1.put N (.agg cs)).s N= .agg cs:=by simp
   have hN1:(st1.put N (.agg cs)).s (N+1)=st1.s (N+1):=by simp
   simp only [Option.map,b5z,Ev.run_bind,a38,Option.bind,hN,Ev.run_pure,hN1]
   cases st1.s (N+1)<;>try rfl
   rename_i zs
   simp only [Ev.run_pure,a0d,gO]
   by_cases hc:cs.length=sz/\off+sz<=zs.length
   ·simp only [hc.1,hc.2,decide_true,Bool.and_self,if_true,and_self,a5l,a94 (show nm (AV.agg cs)=false from rfl)]
    exact a9t rest _
   ·have:(decide (cs.length=sz)&&decide (off+sz<=zs.length))=false:=by
     rw [Bool.eq_false_iff]; intro hh
     simp only [Bool.and_eq_true,decide_eq_true_eq] at hh
     exact hc hh
    simp only [this,Bool.false_eq_true,if_false,if_neg hc]
def d09 (st:St) (N d:Nat) (v:AV):Option St:=match v with
 | .agg ks=>some ((st.put (N+1) .dead).put d (.agg ks))
 | _=>none
@[congr] theorem c7b {v v':AV} (h:v=v'):d09 st N d v=d09 st N d v':=by rw [h]
@[go_sem] theorem d8d {ks:List AV}:d09 st N d (.agg ks)=some ((st.put (N+1) .dead).put d (.agg ks)):=(rfl)
def d07 (N d:Nat) (o:Option St):Option St:=match o with
 | some st=>d09 st N d (st.s (N+1))
 | none=>none
@[congr] theorem c7a {o o':Option St} (h:o=o'):d07 N d o=d07 N d o':=by rw [h]
@[go_sem] theorem d08:d07 N d (some st)=d09 st N d (st.s (N+1)):=(rfl)
@[go_sem] theorem d2e {T:TypeId} {zs:List AV} {parts:List (Nat×Nat×Nat×X)}:evS G N (some d) (.build T zs parts) st=d07 N d (b8f N (parts.map fun p=>p.2) (st.put (N+1) (.agg zs))):=by
 simp only [evS,a0w,Ev.run_bind,a5l,Option.bind,a9t]
 cases b8f N (parts.map fun p=>p.2) (st.put (N+1) (.agg zs)) with
 | none=>rfl
 | some s=>
  simp only [Option.map,b5z,Ev.run_bind,a38,Option.bind,d07]
  cases s.s (N+1)<;>rfl
def d1e (st:St) (N d sz len:Nat) (v:AV):Option St:=match v with
 | .agg ks=>some (st.thru (N+1) d (.own sz len ks))
 | _=>none
@[congr] theorem c7e {sz len:Nat} {v v':AV} (h:v=v'):d1e st N d sz len v=d1e st N d sz len v':=by rw [h]
@[go_sem] theorem d8i {sz len:Nat} {ks:List AV}:d1e st N d sz len (.agg ks)=some (st.thru (N+1) d (.own sz len ks)):=(rfl)
def d1c (N d sz len:Nat) (o:Option St):Option St:=match o with
 | some st=>d1e st N d sz len (st.s (N+1))
 | none=>none
@[congr] theorem c7d {sz len:Nat} {o o':Option St} (h:o=o'):d1c N d sz len o=d1c N d sz len o':=by rw [h]
@[go_sem] theorem d1d {sz len:Nat}:d1c N d sz len (some st)=d1e st N d sz len (st.s (N+1)):=(rfl)
@[go_sem] theorem c8b {T e:TypeId} {sz len:Nat} {zs:List AV} {parts:List (Nat×X)}:evS G N (some d) (.bslice T e sz len zs parts) st=d1c N d sz len (b8f N (parts.map fun p=>(p.1*sz,sz,p.2)) (st.put (N+1) (.agg (b1u len zs)))):=by
 simp only [evS,a0w,Ev.run_bind,a5l,Option.bind,a9t]
 cases b8f N (parts.map fun p=>(p.1*sz,sz,p.2)) (st.put (N+1) (.agg (b1u len zs))) with
 | none=>rfl
 | some s=>
  simp only [Option.map,b5z,Ev.run_bind,a38,Option.bind,d1c]
  cases s.s (N+1)<;>rfl
def d1a (N d sz:Nat) (r:Option (St×List AV)):Option St:=match r with
 | some (st1,cs)=>gO (cs.length=sz) (some ((st1.put N (.agg cs)).thru N d (.var cs)))
 | none=>none
@[congr] theorem c7c {sz:Nat} {r r':Option (St×List AV)} (h:r=r'):d1a N d sz r=d1a N d sz r':=by rw [h]
@[go_sem] theorem d1b {sz:Nat} {cs:List AV}:d1a N d sz (some (st,cs))=gO (cs.length=sz) (some ((st.put N (.agg cs)).thru N d (.var cs))):=(rfl)
@[go_sem] theorem e3y {T:TypeId} {sz:Nat} {x:X}:evS G N (some d) (.box T sz x) st=d1a N d sz (giv st N x (rdv st x)):=by
 simp only [evS,a0w,Ev.run_bind,a87,Option.bind]
 cases giv st N x (rdv st x) with
 | none=>rfl
 | some r=>
  obtain ⟨st1,cs⟩:=r
  have hN:(st1.put N (.agg cs)).s N= .agg cs:=by simp
  simp only [Option.map,b5z,Ev.run_bind,a38,Option.bind,hN,Ev.run_pure,a0d,d1a,gO]
  by_cases hc:cs.length=sz
  ·simp only [hc,decide_true,if_true]; rfl
  ·simp only [hc,decide_false,Bool.false_eq_true,if_false]
def d4g (st:St) (N d sz by_:Nat) (zs:List AV) (l c:Option Int):Option St:=match l,c with
 | some n,some m=>gO (0<=n/\n<=m/\m*by_<=140737488355328/\m<=140737488355328) (some (st.thru N d (.own sz n.toNat (b1u n.toNat zs))))
 | _,_=>none
@[congr] theorem c83 {sz by_:Nat} {zs:List AV} {l l' c c':Option Int} (h:l=l') (h2:c=c'):d4g st N d sz by_ zs l c=d4g st N d sz by_ zs l' c':=by rw [h,h2]
@[go_sem] theorem d4h {sz by_:Nat} {zs:List AV} {n m:Int}:d4g st N d sz by_ zs (some n) (some m)=gO (0<=n/\n<=m/\m*by_<=140737488355328/\m<=140737488355328) (some (st.thru N d (.own sz n.toNat (b1u n.toNat zs)))):=(rfl)
@[go_sem] theorem e36 {T e:TypeId} {sz by_:Nat} {zs:List AV} {l c:X}:evS G N (some d) (.mks T e sz by_ zs l c) st=d4g st N d sz by_ zs (b9p (rdv st l)) (b9p (rdv st c)):=by
 simp only [evS,a0w,Ev.run_bind,a89,Option.bind,d4g]
 cases b9p (rdv st l) with
 | none=>rfl
 | some n=>
  simp only [Option.map,a89]
  cases b9p (rdv st c) with
  | none=>rfl
  | some m=>
   simp only [Option.map,Ev.run_bind,a0d,Option.bind,gO]
   by_cases hc:0<=n/\n<=m/\m*by_<=140737488355328/\m<=140737488355328
   ·obtain ⟨h1,h2,h3,h4⟩:=hc
    simp only [h1,h2,h3,h4,decide_true,Bool.and_self,if_true,and_self]; rfl
   ·have:(decide (0<=n)&&decide (n<=m)&&decide (m*by_<=140737488355328)&&decide (m<=140737488355328))=false:=by
     rw [Bool.eq_false_iff]; intro hh
     simp only [Bool.and_eq_true,decide_eq_true_eq] at hh
     exact hc ⟨hh.1.1.1,hh.1.1.2,hh.1.2,hh.2⟩
    simp only [this,Bool.false_eq_true,if_false,if_neg hc]
def c81 (st:St) (d:Nat) (T:TypeId) (x:X) (v:AV):Option St:=match v with
 | .lit v=>some (st.put d (.lit (.iface T v)))
 | .var ks=>match x with
  | .t t=>some ((st.set t (frz (.var ks))).put d (.ifc T (frz (.var ks))))
  | _=>none
 | .ip ks o=>some (st.put d (.ifc T (.ip ks o)))
 | _=>none
@[congr] theorem c82 {T:TypeId} {x:X} {v v':AV} (h:v=v'):c81 st d T x v=c81 st d T x v':=by rw [h]
@[go_sem] theorem e35 {T:TypeId} {x:X}:evS G N (some d) (.mki T x) st=c81 st d T x (rdv st x):=by
 simp only [evS,a0w,Ev.run_bind,a0n,Option.bind]
 cases hv:rdv st x<;>try rfl
 cases x<;>rfl
@[go_sem] theorem e0f {T:TypeId} {x:X} {v:Value}:c81 st d T x (.lit v)=some (st.put d (.lit (.iface T v))):=(rfl)
@[go_sem] theorem e0g {T:TypeId} {t:Nat} {ks:List AV}:c81 st d T (.t t) (.var ks)=some ((st.set t (.ip (a1b ks) 0)).put d (.ifc T (.ip (a1b ks) 0))):=(rfl)
@[go_sem] theorem e5z {T:TypeId} {x:X} {ks:List AV} {o:Nat}:c81 st d T x (.ip ks o)=some (st.put d (.ifc T (.ip ks o))):=(rfl)
def c5k (st:St) (d:Nat) (k:Option AV):Option St:=match k with
 | some k=>if a0j k then some (st.put d k) else none
 | none=>none
@[congr] theorem c8h {k k':Option AV} (h:k=k'):c5k st d k=c5k st d k':=by rw [h]
@[go_sem] theorem d20 {k:AV}:c5k st d (some k)=iO (a0j k) (some (st.put d k)) none:=(rfl)
def d21 (st:St) (d off:Nat) (v:AV):Option St:=match v with
 | .agg ks=>c5k st d ks[off]?
 | _=>none
@[congr] theorem c8i {off:Nat} {v v':AV} (h:v=v'):d21 st d off v=d21 st d off v':=by rw [h]
@[go_sem] theorem d9e {off:Nat} {ks:List AV}:d21 st d off (.agg ks)=c5k st d ks[off]? :=(rfl)
@[go_sem] theorem e31 {T off f:Nat} {x:X}:evS G N (some d) (.fld T off x f) st=d21 st d off (rdv st x):=by
 simp only [evS,a0w,Ev.run_bind,a0n,Option.bind]
 cases hv:rdv st x<;>try rfl
 rename_i ks
 simp only [d21,Ev.run_bind,a0q,Option.bind]
 cases ks[off]? with
 | none=>rfl
 | some k=>
  simp only [c5k,Ev.run_bind,a0d,Option.bind]
  cases hn:a0j k
  ·simp [c5k,Ev.run_bind,a0d,a0q,hn]
  ·simp only [Option.map,hn,if_true]; rfl
def c5i (st:St) (N d:Nat) (x:X) (i:Nat) (ks:List AV) (k:Option AV):Option St:=match k with
 | some k=>if a0j k then some (st.put d k) else match x with
  | .t t=>some ((st.put t (.tup (ks.set i .dead))).thru N d k)
  | _=>none
 | none=>none
@[congr] theorem c8d {x:X} {i:Nat} {ks:List AV} {k k':Option AV} (h:k=k'):c5i st N d x i ks k=c5i st N d x i ks k':=by rw [h]
@[go_sem] theorem d2q {t i:Nat} {ks:List AV} {k:AV}:c5i st N d (.t t) i ks (some k)=iO (a0j k) (some (st.put d k)) (some ((st.put t (.tup (ks.set i .dead))).thru N d k)):=(rfl)
def d2r (st:St) (N d:Nat) (x:X) (i:Nat) (v:AV):Option St:=match v with
 | .tup ks=>c5i st N d x i ks ks[i]?
 | _=>none
@[congr] theorem c8e {x:X} {i:Nat} {v v':AV} (h:v=v'):d2r st N d x i v=d2r st N d x i v':=by rw [h]
@[go_sem] theorem d9b {x:X} {i:Nat} {ks:List AV}:d2r st N d x i (.tup ks)=c5i st N d x i ks ks[i]? :=(rfl)
@[go_sem] theorem e30 {x:X} {i:Nat}:evS G N (some d) (.ext x i) st=d2r st N d x i (rdv st x):=by
 simp only [evS,a0w,Ev.run_bind,a0n,Option.bind]
 cases hv:rdv st x<;>try rfl
 rename_i ks
 simp only [d2r,Ev.run_bind,a0q,Option.bind]
 cases ks[i]? with
 | none=>rfl
 | some k=>
  simp only [Option.map,c5i]
  generalize a0j k=b
  cases b<;>cases x<;>rfl
def c4f (T:TypeId) (zs:List AV) (v:AV):Option AV:=match v,zs with
 | .lit .nilIface,[z]=>some (.tup [z,.lit (.bool false)])
 | .lit (.iface T' u),[z]=>some (.tup (if T'=T then [.lit u,.lit (.bool true)] else [z,.lit (.bool false)]))
 | .ifc T' k,[z]=>if a0j k then some (.tup (if T'=T then [k,.lit (.bool true)] else [z,.lit (.bool false)])) else none
 | _,_=>none
@[congr] theorem d0g {T:TypeId} {zs:List AV} {v v':AV} (h:v=v'):c4f T zs v=c4f T zs v':=by rw [h]
@[go_sem] theorem e2b {T:TypeId} {z:AV}:c4f T [z] (.lit .nilIface)=some (.tup [z,.lit (.bool false)]):=(rfl)
@[go_sem] theorem e2a {T T':TypeId} {u:Value} {z:AV}:c4f T [z] (.lit (.iface T' u))=some (.tup (if T'=T then [.lit u,.lit (.bool true)] else [z,.lit (.bool false)])):=(rfl)
@[go_sem] theorem e77 {T T':TypeId} {ks:List AV} {o:Nat} {z:AV}:c4f T [z] (.ifc T' (.ip ks o))=some (.tup (if T'=T then [.ip ks o,.lit (.bool true)] else [z,.lit (.bool false)])):=(rfl)
@[go_sem] theorem e4b {x:X} {xT T:TypeId} {zs:List AV}:evS G N (some d) (.tas x xT T zs) st=b0k st d (c4f T zs (rdv st x)):=by
 simp only [evS,a0w,Ev.run_bind,a0n,Option.bind]
 have two:∀ v:AV,(∀ z,zs≠[z])->((match v,zs with
  | .lit .nilIface,[z]=>setD (some d) (.tup [z,.lit (.bool false)])
  | .lit (.iface T' u),[z]=>setD (some d) (.tup (if T'=T then [.lit u,.lit (.bool true)] else [z,.lit (.bool false)]))
  | .ifc T' k,[z]=>do
   a0f (a0j k)
   setD (some d) (.tup (if T'=T then [k,.lit (.bool true)] else [z,.lit (.bool false)]))
  | _,_=>Ev.fail:Ev Unit).run st).map (·.2)=b0k st d (c4f T zs v):=by
  intro v h
  cases v<;>(cases zs with
   | nil=>first | rfl | (rename_i v; cases v<;>rfl)
   | cons a l=>cases l with
    | nil=>exact (h a rfl).elim
    | cons b l=>first | rfl | (rename_i v; cases v<;>rfl))
 cases zs with
 | nil=>exact two _ (by simp)
 | cons z l=>
  cases l with
  | cons b l=>exact two _ (by simp)
  | nil=>
   cases hv:rdv st x<;>try rfl
   ·rename_i v; cases v<;>rfl
   ·simp only [Ev.run_bind,a0d,Option.bind,c4f]
    generalize a0j _=b
    cases b<;>rfl
def cvI (k:IntKind) (v:AV):Option AV:=match v with
 | .lit (.int _ n)=>some (.lit (.int k (k.wrap n)))
 | _=>none
@[congr] theorem d1s {k:IntKind} {v v':AV} (h:v=v'):cvI k v=cvI k v':=by rw [h]
@[go_sem] theorem e27 {k k':IntKind} {n:Int}:cvI k (.lit (.int k' n))=some (.lit (.int k (k.wrap n))):=(rfl)
@[go_sem] theorem d85 {s t:TypeId} {k:IntKind} {x:X}:evS G N (some d) (.conv s t (.int k) x) st=b0k st d (cvI k (rdv st x)):=by
 simp only [evS,a0w,Ev.run_bind,a4q,Option.bind]
 cases rdv st x<;>try rfl
 rename_i v; cases v<;>rfl
def mmO (mx:Bool) (u v:AV):Option AV:=match u,v with
 | .lit (.int k a),.lit (.int k' b)=>if k=k' then some (.lit (.int k (if mx then (if b > a then b else a) else (if b < a then b else a)))) else none
 | _,_=>none
@[go_sem] theorem e51 {mx:Bool} {k:IntKind} {a b:Int}:mmO mx (.lit (.int k a)) (.lit (.int k b))=some (.lit (.int k (if mx then (if b > a then b else a) else (if b < a then b else a)))):=by simp [mmO]
@[go_sem] theorem e94 {mx:Bool} {ts:List TypeId} {x y:X}:evS G N (some d) (.mm mx ts [x,y]) st=b0k st d (mmO mx (rdv st x) (rdv st y)):=by
 simp only [evS,a0w,Ev.run_bind,a4q,Option.bind]
 cases rdv st x<;>try rfl
 simp only [a4q]
 cases rdv st y
 case lit.lit u v=>
  cases u<;>try rfl
  rename_i k a
  cases v<;>try rfl
  rename_i k' b
  simp only [mmO,Ev.run_bind,a0d,Option.bind]
  by_cases h:k=k'
  ·simp only [h,decide_true,if_true]; rfl
  ·simp only [h,decide_false,Bool.false_eq_true,if_false]; rfl
 all_goals first | rfl | (rename_i u; cases u<;>rfl) | (rename_i u _; cases u<;>rfl) | (rename_i u _ _; cases u<;>rfl) | (rename_i u _ _ _; cases u<;>rfl) | (rename_i u _ _ _ _; cases u<;>rfl) | (rename_i u _ _ _ _ _; cases u<;>rfl)
def b37 (st:St):List X->Option (List AV)
 | []=>some []
 | x::xs=>match rdv st x with
  | .var _=>match x with
   | .t t=>(b37 st xs).map fun ks=> .ref t [] 0 (st.ep t)::ks
   | _=>none
  | .own _ _ _=>none
  | .dead=>none
  | .agg _=>none
  | .tup _=>none
  | .ifc _ _=>none
  | .bor _ _ _ _ _=>none
  | .mp _ _=>none
  | .loan _=>none
  | k=>(b37 st xs).map fun ks=>k::ks
theorem a7j:∀ (xs:List X),(b0b xs).run st=(b37 st xs).map fun ks=>(ks,st)
 | []=>rfl
 | x::xs=>by
  have ih:=a7j xs
  simp only [b0b,Ev.run_bind,a0n,Option.bind,b37]
  cases hv:rdv st x<;>try (first | rfl | (simp only [Ev.run_bind,ih,Option.bind]; cases b37 st xs<;>rfl))
  cases x<;>try rfl
  simp only [a99,Ev.run,Ev.run_bind,ih,Option.bind,rde]
  cases b37 st xs<;>rfl
def c3x (x:X) (v:AV) (st:St) (r:Option (List AV)):Option (List AV):=match v with
  | .var _=>match x with
   | .t t=>r.map fun ks=> .ref t [] 0 (st.ep t)::ks
   | _=>none
  | .own _ _ _=>none
  | .dead=>none
  | .agg _=>none
  | .tup _=>none
  | .ifc _ _=>none
  | .bor _ _ _ _ _=>none
  | .mp _ _=>none
  | .loan _=>none
  | k=>r.map fun ks=>k::ks
@[go_sem] theorem d8m:b37 st []=some []:=(rfl)
@[go_sem] theorem d1k {x:X} {xs:List X}:b37 st (x::xs)=c3x x (rdv st x) st (b37 st xs):=by
 simp only [b37,c3x]
@[go_sem] theorem d8l {t:Nat} {ks l:List AV}:c3x (.t t) (.var ks) st (some l)=some (.ref t [] 0 (st.ep t)::l):=(rfl)
@[go_sem] theorem d8j {x:X} {v:Value} {l:List AV}:c3x x (.lit v) st (some l)=some (.lit v::l):=(rfl)
@[go_sem] theorem e21 {x:X} {n:Nat} {ks l:List AV}:c3x x (.sl n ks) st (some l)=some (.sl n ks::l):=(rfl)
@[go_sem] theorem e20 {x:X} {n:Nat} {ks l:List AV}:c3x x (.ip ks n) st (some l)=some (.ip ks n::l):=(rfl)
@[go_sem] theorem e2z {x:X} {f:FuncId} {a b l:List AV}:c3x x (.fn f a b) st (some l)=some (.fn f a b::l):=(rfl)
@[go_sem] theorem d8k {x:X} {t:Nat} {q:List Nat} {o e:Nat} {l:List AV}:c3x x (.ref t q o e) st (some l)=some (.ref t q o e::l):=(rfl)
def e5y (f:FuncId) (a b:Option (List AV)):Option AV:=match a,b with
 | some a,some b=>some (.fn f a b)
 | _,_=>none
@[go_sem] theorem d4f {f:FuncId} {a b:List AV}:e5y f (some a) (some b)=some (.fn f a b):=(rfl)
@[go_sem] theorem e34 {f:FuncId} {fs cs:List X}:evS G N (some d) (.mkf f fs cs) st=b0k st d (e5y f (b37 st fs) (b37 st cs)):=by
 simp only [evS,a0w,Ev.run_bind,a7j,Option.bind]
 cases b37 st fs with
 | none=>rfl
 | some a=>
  simp only [Option.map,a7j]
  cases b37 st cs<;>rfl
def b8x:List X->St->St
 | [],st=>st
 | .t n::xs,st=>b8x xs (match st.s n with
  | .var ks=>st.set n (frz (.var ks))
  | _=>st)
 | _::xs,st=>b8x xs st
def c2t (n:Nat) (v:AV) (st:St):St:=match v with
 | .var ks=>st.set n (.ip (a1b ks) 0)
 | _=>st
@[go_sem] theorem d9j {st:St}:b8x [] st=st:=(rfl)
@[congr] theorem c8j {n:Nat} {v v':AV} {st:St} (h:v=v'):c2t n v st=c2t n v' st:=by rw [h]
@[go_sem] theorem e99 {st:St} {n:Nat} {xs:List X}:b8x (.t n::xs) st=b8x xs (c2t n (st.s n) st):=by
 simp only [b8x,c2t]
 cases st.s n<;>simp [frz]
@[go_sem] theorem e98 {st:St} {v:Value} {xs:List X}:b8x (.c v::xs) st=b8x xs st:=(rfl)
@[go_sem] theorem d9h {n:Nat} {ks:List AV} {st:St}:c2t n (.var ks) st=st.set n (.ip (a1b ks) 0):=(rfl)
@[go_sem] theorem e4o {n o:Nat} {ks:List AV} {st:St}:c2t n (.ip ks o) st=st:=(rfl)
@[go_sem] theorem d9g {n:Nat} {v:Value} {st:St}:c2t n (.lit v) st=st:=(rfl)
@[go_sem] theorem e4p {n m:Nat} {ks:List AV} {st:St}:c2t n (.sl m ks) st=st:=(rfl)
@[go_sem] theorem e4n {n:Nat} {f:FuncId} {a b:List AV} {st:St}:c2t n (.fn f a b) st=st:=(rfl)
theorem a23:∀ (xs:List X) (st:St),(a68 xs).run st=some ((),b8x xs st)
 | [],st=>rfl
 | x::xs,st=>by
  simp only [a68,Ev.run_bind,a0n,Option.bind]
  cases x with
  | t n=>
   simp only [rdv,b8x]
   cases hv:st.s n<;>simp only [hv]<;>try exact a23 xs st
   simp only [a99,Ev.run_bind,Ev.run,a9b,Option.bind]
   exact a23 xs _
  | c v=>exact a23 xs st
  | nl sz=>exact a23 xs st
  | g n=>exact a23 xs st
  | f n=>exact a23 xs st
def e50 (st:St) (d:Nat) (f:FuncId) (fs cs:List X):Option St:=b0k st d (e5y f (b37 st fs) (b37 st cs))
@[go_sem] theorem e37 {f:FuncId} {fs cs:List X}:evS G N (some d) (.mkz f fs cs) st=e50 (b8x cs st) d f fs cs:=by
 simp only [evS,a0w,Ev.run_bind,a23,a7j,Option.bind,e50]
 cases b37 (b8x cs st) fs with
 | none=>rfl
 | some a=>
  simp only [Option.map,a7j]
  cases b37 (b8x cs st) cs<;>rfl
attribute [go_sem] e50
def e3v (G:GG) (b:BinOp) (tp:TypeId) (d:Option Nat) (u v:Value):Ev Unit:=match u,v with
  | .iface t1 (.pointer (some a)),.iface t2 (.pointer (some c))=>do
   a0f (t1==tp&&t2==tp&&(decide (a=c)||((G a.block).isSome&&(G c.block).isSome)))
   match b with
   | .eql=>setD d (.lit (.bool (decide (a=c))))
   | .neq=>setD d (.lit (.bool (!(decide (a=c)))))
   | _=> .fail
  | _,_=> .fail
def d2b (G:GG) (b:BinOp) (tp:TypeId) (st:St) (d:Nat) (u v:Option Value):Option St:=match u,v with
 | some u,some v=>((e3v G b tp (some d) u v).run st).map (·.2)
 | _,_=>none
@[congr] theorem c79 {b:BinOp} {tp:TypeId} {u v u' v':Option Value} (h:u=u') (h2:v=v'):d2b G b tp st d u v=d2b G b tp st d u' v':=by rw [h,h2]
def e2v (b:BinOp) (c:Bool):Option AV:=match b with
 | .eql=>some (.lit (.bool c))
 | .neq=>some (.lit (.bool (!c)))
 | _=>none
@[go_sem] theorem d8b {c:Bool}:e2v .eql c=some (.lit (.bool c)):=(rfl)
@[go_sem] theorem d8c {c:Bool}:e2v .neq c=some (.lit (.bool !c)):=(rfl)
@[go_sem] theorem d84 {b:BinOp} {tp t1 t2:TypeId} {a c:Addr}:d2b G b tp st d (some (.iface t1 (.pointer (some a)))) (some (.iface t2 (.pointer (some c))))=gO (t1=tp/\t2=tp/\(a=c\/((G a.block).isSome=true/\(G c.block).isSome=true))) (b0k st d (e2v b (decide (a=c)))):=by
 simp only [d2b,e3v,gO,Ev.run_bind,a0d,Option.bind]
 by_cases h:t1=tp/\t2=tp/\(a=c\/((G a.block).isSome=true/\(G c.block).isSome=true))
 ·have:(t1==tp&&t2==tp&&(decide (a=c)||((G a.block).isSome&&(G c.block).isSome)))=true:=by
   simp only [Bool.and_eq_true,Bool.or_eq_true,beq_iff_eq,decide_eq_true_eq]; exact ⟨⟨h.1,h.2.1⟩,h.2.2⟩
  rw [if_pos h]
  simp only [this,if_true]
  cases b<;>rfl
 ·have:(t1==tp&&t2==tp&&(decide (a=c)||((G a.block).isSome&&(G c.block).isSome)))=false:=by
   rw [Bool.eq_false_iff]; intro hh
   simp only [Bool.and_eq_true,Bool.or_eq_true,beq_iff_eq,decide_eq_true_eq] at hh
   exact h ⟨hh.1.1,hh.1.2,hh.2⟩
  rw [if_neg h]
  simp only [this,Bool.false_eq_true,if_false]; rfl
@[go_sem] theorem e3z {b:BinOp} {T tp te:TypeId} {x y:X} {yT:TypeId}:evS G N (some d) (.eqs b T tp te x y yT) st=d2b G b tp st d (c8z (rdv st x)) (c8z (rdv st y)):=by
 have e:a0w G N (some d) (.eqs b T tp te x y yT)=(b38 x >>=fun u=>b38 y >>=fun v=>e3v G b tp (some d) u v):=rfl
 simp only [evS,e,Ev.run_bind,b5o,Option.bind]
 cases c8z (rdv st x) with
 | none=>rfl
 | some u=>
  simp only [Option.map,b5o]
  cases c8z (rdv st y)<;>rfl
end
section
variable {P:Program} {G:GG} {N:Nat} {st:St} {K:St->Prop}
def gvB (st:St) (N t:Nat) (q:List Nat) (lo n j:Nat) (k:Option AV):Option St:=match k with
 | some (.own sz n0 ks)=>gO (lo=0/\t < N/\n<=n0) (some ((st.set t (a0h (st.s t) q .dead)).put j (.own sz n (ks.take (n*sz)))))
 | _=>none
@[congr] theorem d3j {t:Nat} {q:List Nat} {lo n j:Nat} {k k':Option AV} (h:k=k'):gvB st N t q lo n j k=gvB st N t q lo n j k':=by rw [h]
@[go_sem] theorem e45 {t:Nat} {q:List Nat} {lo n j sz n0:Nat} {ks:List AV}:gvB st N t q lo n j (some (.own sz n0 ks))=gO (lo=0/\t < N/\n<=n0) (some ((st.set t (a0h (st.s t) q .dead)).put j (.own sz n (ks.take (n*sz))))):=(rfl)
def gvS (st:St) (N:Nat) (x:X) (j:Nat) (v:AV):Option St:=match v with
 | .dead=>none
 | .bor t q lo n e=>gvB st N t q lo n j (a1j st t q e)
 | v=>if noRef v then ((a2y x j v).run st).map (·.2) else none
@[congr] theorem d3k {x:X} {j:Nat} {v v':AV} (h:v=v'):gvS st N x j v=gvS st N x j v':=by rw [h]
theorem c1c (x:X) (j:Nat):((b6w N x j).run st).map (·.2)=gvS st N x j (rdv st x):=by
 simp only [b6w,Ev.run_bind,a0n,Option.bind]
 cases hv:rdv st x
 case dead=>rfl
 case bor t q lo n e=>
  simp only [gvS,Ev.run_bind,a07,Option.bind,a0d]
  by_cases he:e=st.ep t
  ·subst he
   simp only [a1j,if_true,beq_self_eq_true,Bool.true_and]
   cases hk:a0c (st.s t) q with
   | none=>
    simp only [gvB]
    generalize (lo==0&&decide (t < N))=b
    cases b
    ·rfl
    ·simp only [if_true,a0q,hk]; rfl
   | some k=>
    by_cases h1:lo=0
    ·by_cases h2:t < N
     ·simp only [h1,h2,beq_self_eq_true,decide_true,Bool.and_self,if_true,a0q,hk]
      cases k<;>try rfl
      rename_i sz n0 ks
      simp only [Option.map,gvB,gO,Ev.run_bind,a0d,Option.bind,h2,true_and]
      by_cases h3:n<=n0
      ·simp only [h3,decide_true,if_true]; rfl
      ·simp only [h3,decide_false,Bool.false_eq_true,if_false]
     ·simp only [h2,decide_false,Bool.and_false,Bool.false_eq_true,if_false]
      cases k<;>try rfl
      simp only [gvB,gO,h2,false_and,and_false,if_false]; rfl
    ·have:(lo==0)=false:=by simpa using h1
     simp only [this,Bool.false_and,Bool.false_eq_true,if_false]
     cases k<;>try rfl
     simp only [gvB,gO,h1,false_and,if_false]; rfl
  ·have:(e==st.ep t)=false:=by simpa using he
   simp only [this,Bool.false_and,Bool.false_eq_true,if_false,a1j,he]; rfl
 all_goals (simp only [gvS,Ev.run_bind,a0d,Option.bind]; generalize noRef _=b; cases b<;>rfl)
section
variable {j:Nat}
def c57 (b:Bool) (r:Option St):Option St:=if b then r else none
@[congr] theorem c9b {b b':Bool} {r:Option St} (h:b=b'):c57 b r=c57 b' r:=by rw [h]
@[go_sem] theorem f1j {r:Option St}:c57 true r=r:=(rfl)
@[go_sem] theorem e47 {x:X} {t:Nat} {q:List Nat} {lo n e:Nat}:gvS st N x j (.bor t q lo n e)=gvB st N t q lo n j (a1j st t q e):=(rfl)
@[go_sem] theorem e49 {x:X} {v:Value}:gvS st N x j (.lit v)=some (st.put j (.lit v)):=by cases x<;>rfl
@[go_sem] theorem f0q {x:X} {n:Nat} {ks:List AV}:gvS st N x j (.sl n ks)=some (st.put j (.sl n ks)):=by cases x<;>rfl
@[go_sem] theorem f0o {x:X} {n:Nat} {ks:List AV}:gvS st N x j (.ip ks n)=some (st.put j (.ip ks n)):=by cases x<;>rfl
@[go_sem] theorem f0n {x:X} {f:FuncId} {a b:List AV}:gvS st N x j (.fn f a b)=c57 (noRef (.fn f a b)) (some (st.put j (.fn f a b))):=by
 simp only [gvS,c57]; generalize noRef _=r; cases r<;>cases x<;>rfl
@[go_sem] theorem e5a {t sz n:Nat} {ks:List AV}:gvS st N (.t t) j (.own sz n ks)=some ((st.put t .dead).put j (.own sz n ks)):=(rfl)
@[go_sem] theorem f0p {t sz n:Nat} {ks:List AV}:gvS st N (.nl t) j (.own sz n ks)=some (st.put j (.own sz n ks)):=(rfl)
@[go_sem] theorem e5d {t:Nat} {ks:List AV}:gvS st N (.t t) j (.var ks)=some ((st.put t .dead).put j (.var ks)):=(rfl)
@[go_sem] theorem e46 {t:Nat} {ks:List AV}:gvS st N (.t t) j (.agg ks)=iO (a0k ks) (some (st.put j (.agg ks))) (some ((st.put t .dead).put j (.agg ks))):=by
 by_cases h:a0k ks=true
 ·simp only [gvS,noRef,if_true,a2y,a0j,iO,h]; rfl
 ·simp only [gvS,noRef,if_true,a2y,a0j,iO,h]; rfl
@[go_sem] theorem e5b {t:Nat} {ks:List AV}:gvS st N (.t t) j (.tup ks)=iO (a0k ks) (some (st.put j (.tup ks))) (some ((st.put t .dead).put j (.tup ks))):=by
 by_cases h:a0k ks=true
 ·simp only [gvS,noRef,if_true,a2y,a0j,iO,h]; rfl
 ·simp only [gvS,noRef,if_true,a2y,a0j,iO,h]; rfl
@[go_sem] theorem e48 {t:Nat} {T:TypeId} {k:AV}:gvS st N (.t t) j (.ifc T k)=iO (a0j k) (some (st.put j (.ifc T k))) (some ((st.put t .dead).put j (.ifc T k))):=by
 by_cases h:a0j k=true
 ·simp only [gvS,noRef,if_true,a2y,a0j,iO,h]; rfl
 ·simp only [gvS,noRef,if_true,a2y,a0j,iO,h]; rfl
end
def psB (st:St) (N t:Nat) (q:List Nat) (lo n j:Nat) (k:Option AV):Option St:=match k with
 | some (.own sz n0 ks)=>gO (t < N/\lo+n<=n0) (some ((st.set t (a0h (st.s t) q (frz (.own sz n0 ks)))).put j (.sl n (((a1b ks).drop (lo*sz)).take (n*sz)))))
 | _=>none
@[congr] theorem d5x {t:Nat} {q:List Nat} {lo n j:Nat} {k k':Option AV} (h:k=k'):psB st N t q lo n j k=psB st N t q lo n j k':=by rw [h]
@[go_sem] theorem e60 {t:Nat} {q:List Nat} {lo n j sz n0:Nat} {ks:List AV}:psB st N t q lo n j (some (.own sz n0 ks))=gO (t < N/\lo+n<=n0) (some ((st.set t (a0h (st.s t) q (frz (.own sz n0 ks)))).put j (.sl n (((a1b ks).drop (lo*sz)).take (n*sz))))):=(rfl)
def b13 (k:AV) (o:Option (St×List AV)):Option (St×List AV):=match o with
 | some r=>some (r.1,k::r.2)
 | none=>none
@[congr] theorem c6b {k:AV} {o o':Option (St×List AV)} (h:o=o'):b13 k o=b13 k o':=by rw [h]
@[go_sem] theorem c9d {k:AV} {s:St} {l:List AV}:b13 k (some (s,l))=some (s,k::l):=(rfl)
def c3d (N t0:Nat) (st:St) (t:Nat) (q:List Nat) (lo n:Nat) (K:St->Option (St×List AV)) (k:Option AV):Option (St×List AV):=match k with
 | some (.own sz n0 kk)=>gO (t=t0/\t0 < N/\lo+n<=n0) (b13 (.sl n (((a1b kk).drop (lo*sz)).take (n*sz))) (K (st.set t (a0h (st.s t) q (frz (.own sz n0 kk))))))
 | _=>none
@[congr] theorem c9i {t0 t:Nat} {q:List Nat} {lo n:Nat} {K:St->Option (St×List AV)} {k k':Option AV} (h:k=k'):c3d N t0 st t q lo n K k=c3d N t0 st t q lo n K k':=by rw [h]
@[go_sem] theorem e08 {t0 t:Nat} {q:List Nat} {lo n sz n0:Nat} {K:St->Option (St×List AV)} {kk:List AV}:c3d N t0 st t q lo n K (some (.own sz n0 kk))=gO (t=t0/\t0 < N/\lo+n<=n0) (b13 (.sl n (((a1b kk).drop (lo*sz)).take (n*sz))) (K (st.set t (a0h (st.s t) q (frz (.own sz n0 kk)))))):=(rfl)
def psL (N t0:Nat):List AV->St->Option (St×List AV)
 | [],st=>some (st,[])
 | .bor t q lo n e::ks,st=>c3d N t0 st t q lo n (fun s=>psL N t0 ks s) (a1j st t q e)
 | k::ks,st=>if a3o k then b13 k (psL N t0 ks st) else none
@[go_sem] theorem e63 {t0:Nat}:psL N t0 [] st=some (st,[]):=(rfl)
@[go_sem] theorem e61 {t0 t:Nat} {q:List Nat} {lo n e:Nat} {ks:List AV}:psL N t0 (.bor t q lo n e::ks) st=c3d N t0 st t q lo n (fun s=>psL N t0 ks s) (a1j st t q e):=(rfl)
@[go_sem] theorem e62 {t0:Nat} {v:Value} {ks:List AV}:psL N t0 (.lit v::ks) st=b13 (.lit v) (psL N t0 ks st):=(rfl)
@[go_sem] theorem f1s {t0 n:Nat} {k ks:List AV}:psL N t0 (.sl n k::ks) st=b13 (.sl n k) (psL N t0 ks st):=(rfl)
@[go_sem] theorem f1r {t0 n:Nat} {k ks:List AV}:psL N t0 (.ip k n::ks) st=b13 (.ip k n) (psL N t0 ks st):=(rfl)
attribute [go_sem] b47
theorem b1d {t0:Nat}:∀ (ks:List AV) (st:St),(a70 N t0 ks).run st=(psL N t0 ks st).map fun r=>(r.2,r.1)
 | [],st=>rfl
 | k::ks,st=>by
  have plain:(do a0f (a3o k); let l<-a70 N t0 ks; pure (k::l):Ev (List AV)).run st=(if a3o k then b13 k (psL N t0 ks st) else none:Option (St×List AV)).map fun r=>(r.2,r.1):=by
   simp only [Ev.run_bind,a0d,Option.bind]
   cases a3o k with
   | false=>rfl
   | true=>
    simp only [if_true,b1d ks st]
    cases psL N t0 ks st<;>rfl
  cases k with
  | bor t q lo n e=>
   simp only [a70,psL,Ev.run_bind,a0d,Option.bind,a07]
   by_cases ht:t=t0
   ·subst ht
    simp only [beq_self_eq_true,if_true]
    by_cases he:e=st.ep t
    ·subst he
     simp only [a1j,if_true,beq_self_eq_true,Bool.true_and]
     cases hk:a0c (st.s t) q with
     | none=>
      simp only [c3d]
      generalize (decide (t < N))=b
      cases b
      ·rfl
      ·simp only [if_true,a0q,hk]; rfl
     | some k=>
      by_cases h2:t < N
      ·simp only [h2,decide_true,if_true,a0q,hk]
       cases k<;>try rfl
       rename_i sz n0 kk
       simp only [Option.map,c3d,gO,Ev.run_bind,a0d,Option.bind,h2,true_and]
       by_cases h3:lo+n<=n0
       ·simp only [h3,decide_true,if_true,a9b,b1d ks]
        cases psL N t ks (st.set t (a0h (st.s t) q (frz (.own sz n0 kk))))<;>rfl
       ·simp only [h3,decide_false,Bool.false_eq_true,if_false]
      ·simp only [h2,decide_false,Bool.false_eq_true,if_false]
       cases k<;>try rfl
       simp only [c3d,gO,h2,false_and,and_false,if_false]; rfl
    ·have:(e==st.ep t)=false:=by simpa using he
     simp only [this,Bool.false_and,Bool.false_eq_true,if_false,a1j,he]; rfl
   ·have h0:(t==t0)=false:=by simpa using ht
    simp only [h0,Bool.false_eq_true,if_false]
    generalize a1j st t q e=k
    cases k with
    | none=>rfl
    | some k=>cases k<;>first | rfl | (simp only [c3d,gO,ht,false_and,if_false]; rfl)
  | _=>exact plain
def d5y (j:Nat) (o:Option (St×List AV)):Option St:=match o with
 | some r=>some (r.1.put j (.agg r.2))
 | none=>none
@[congr] theorem c9j {j:Nat} {o o':Option (St×List AV)} (h:o=o'):d5y j o=d5y j o':=by rw [h]
@[go_sem] theorem d5z {j:Nat} {s:St} {l:List AV}:d5y j (some (s,l))=some (s.put j (.agg l)):=(rfl)
def c9k (st:St) (N j:Nat) (ks:List AV) (t:Option Nat):Option St:=match t with
 | some t=>d5y j (psL N t ks st)
 | none=>none
@[congr] theorem c9l {j:Nat} {ks:List AV} {t t':Option Nat} (h:t=t'):c9k st N j ks t=c9k st N j ks t':=by rw [h]
@[go_sem] theorem d50 {j t:Nat} {ks:List AV}:c9k st N j ks (some t)=d5y j (psL N t ks st):=(rfl)
def psS (st:St) (N:Nat) (x:X) (j:Nat) (v:AV):Option St:=match v with
 | .dead=>none
 | .bor t q lo n e=>psB st N t q lo n j (a1j st t q e)
 | .loan ks=>c9k st N j ks (b47 ks)
 | v=>if noRef v then ((a2l x j v).run st).map (·.2) else none
@[congr] theorem d51 {x:X} {j:Nat} {v v':AV} (h:v=v'):psS st N x j v=psS st N x j v':=by rw [h]
theorem c1e (x:X) (j:Nat):((b3x N x j).run st).map (·.2)=psS st N x j (rdv st x):=by
 simp only [b3x,Ev.run_bind,a0n,Option.bind]
 cases hv:rdv st x
 case dead=>rfl
 case bor t q lo n e=>
  simp only [psS,Ev.run_bind,a07,Option.bind,a0d]
  by_cases he:e=st.ep t
  ·subst he
   simp only [a1j,if_true,beq_self_eq_true,Bool.true_and]
   cases hk:a0c (st.s t) q with
   | none=>
    simp only [psB]
    generalize (decide (t < N))=b
    cases b
    ·rfl
    ·simp only [if_true,a0q,hk]; rfl
   | some k=>
    by_cases h2:t < N
    ·simp only [h2,decide_true,if_true,a0q,hk]
     cases k<;>try rfl
     rename_i sz n0 ks
     simp only [Option.map,psB,gO,Ev.run_bind,a0d,Option.bind,h2,true_and]
     by_cases h3:lo+n<=n0
     ·simp only [h3,decide_true,if_true]; rfl
     ·simp only [h3,decide_false,Bool.false_eq_true,if_false]
    ·simp only [h2,decide_false,Bool.false_eq_true,if_false]
     cases k<;>try rfl
     simp only [psB,gO,h2,false_and,if_false]; rfl
  ·have:(e==st.ep t)=false:=by simpa using he
   simp only [this,Bool.false_and,Bool.false_eq_true,if_false,a1j,he]; rfl
 case loan ks=>
  simp only [psS,Ev.run_bind,a0q]
  cases b47 ks with
  | none=>rfl
  | some t=>
   simp only [Option.map,Option.bind,c9k,Ev.run_bind,b1d ks st]
   cases psL N t ks st<;>rfl
 all_goals (simp only [psS,Ev.run_bind,a0d,Option.bind]; generalize noRef _=b; cases b<;>rfl)
section
variable {j:Nat}
@[go_sem] theorem e65 {x:X} {t:Nat} {q:List Nat} {lo n e:Nat}:psS st N x j (.bor t q lo n e)=psB st N t q lo n j (a1j st t q e):=(rfl)
@[go_sem] theorem e1a {x:X} {ks:List AV}:psS st N x j (.loan ks)=c9k st N j ks (b47 ks):=(rfl)
@[go_sem] theorem e67 {x:X} {v:Value}:psS st N x j (.lit v)=some (st.put j (.lit v)):=by cases x<;>rfl
@[go_sem] theorem f1w {x:X} {n:Nat} {ks:List AV}:psS st N x j (.sl n ks)=some (st.put j (.sl n ks)):=by cases x<;>rfl
@[go_sem] theorem f1u {x:X} {n:Nat} {ks:List AV}:psS st N x j (.ip ks n)=some (st.put j (.ip ks n)):=by cases x<;>rfl
@[go_sem] theorem f1t {x:X} {f:FuncId} {a b:List AV}:psS st N x j (.fn f a b)=c57 (noRef (.fn f a b)) (some (st.put j (.fn f a b))):=by
 simp only [psS,c57]; generalize noRef _=r; cases r<;>cases x<;>rfl
@[go_sem] theorem e68 {t sz n:Nat} {ks:List AV}:psS st N (.t t) j (.own sz n ks)=some ((st.set t (.sl n (a1b ks))).put j (.sl n (a1b ks))):=(rfl)
@[go_sem] theorem f1v {t sz n:Nat} {ks:List AV}:psS st N (.nl t) j (.own sz n ks)=some (st.put j (.sl n (a1b ks))):=(rfl)
@[go_sem] theorem e7a {t:Nat} {ks:List AV}:psS st N (.t t) j (.var ks)=some ((st.set t (.ip (a1b ks) 0)).put j (.ip (a1b ks) 0)):=(rfl)
@[go_sem] theorem e64 {t:Nat} {ks:List AV}:psS st N (.t t) j (.agg ks)=iO (a0k ks) (some (st.put j (.agg ks))) (some ((st.set t (.agg (a1b ks))).put j (.agg (a1b ks)))):=by
 by_cases h:a0k ks=true
 ·simp only [psS,noRef,if_true,a2l,a0j,iO,h]; rfl
 ·simp only [psS,noRef,if_true,a2l,a0j,iO,h]; rfl
@[go_sem] theorem e69 {t:Nat} {ks:List AV}:psS st N (.t t) j (.tup ks)=iO (a0k ks) (some (st.put j (.tup ks))) (some ((st.set t (.tup (a1b ks))).put j (.tup (a1b ks)))):=by
 by_cases h:a0k ks=true
 ·simp only [psS,noRef,if_true,a2l,a0j,iO,h]; rfl
 ·simp only [psS,noRef,if_true,a2l,a0j,iO,h]; rfl
@[go_sem] theorem e66 {t:Nat} {T:TypeId} {k:AV}:psS st N (.t t) j (.ifc T k)=iO (a0j k) (some (st.put j (.ifc T k))) (some ((st.set t (.ifc T (frz k))).put j (.ifc T (frz k)))):=by
 by_cases h:a0j k=true
 ·simp only [psS,noRef,if_true,a2l,a0j,iO,h]; rfl
 ·simp only [psS,noRef,if_true,a2l,a0j,iO,h]; rfl
end
def gvs (N:Nat):Nat->List (Bool×X)->Option St->Option St
 | _,_,none=>none
 | _,[],some st=>some st
 | j,(true,x)::xs,some st=>gvs N (j+1) xs (gvS st N x j (rdv st x))
 | j,(false,_)::xs,some st=>gvs N (j+1) xs (some st)
def pss (N:Nat):Nat->List (Bool×X)->Option St->Option St
 | _,_,none=>none
 | _,[],some st=>some st
 | j,(false,x)::xs,some st=>pss N (j+1) xs (psS st N x j (rdv st x))
 | j,(true,_)::xs,some st=>pss N (j+1) xs (some st)
@[congr] theorem d3l {j:Nat} {xs:List (Bool×X)} {o o':Option St} (h:o=o'):gvs N j xs o=gvs N j xs o':=by rw [h]
@[congr] theorem d52 {j:Nat} {xs:List (Bool×X)} {o o':Option St} (h:o=o'):pss N j xs o=pss N j xs o':=by rw [h]
@[go_sem] theorem e5e {j:Nat}:gvs N j [] (some st)=some st:=(rfl)
@[go_sem] theorem f3d {j:Nat} {x:X} {xs:List (Bool×X)}:gvs N j ((true,x)::xs) (some st)=gvs N (j+1) xs (gvS st N x j (rdv st x)):=(rfl)
@[go_sem] theorem f3c {j:Nat} {x:X} {xs:List (Bool×X)}:gvs N j ((false,x)::xs) (some st)=gvs N (j+1) xs (some st):=(rfl)
@[go_sem] theorem e7b {j:Nat}:pss N j [] (some st)=some st:=(rfl)
@[go_sem] theorem f3n {j:Nat} {x:X} {xs:List (Bool×X)}:pss N j ((false,x)::xs) (some st)=pss N (j+1) xs (psS st N x j (rdv st x)):=(rfl)
@[go_sem] theorem f3o {j:Nat} {x:X} {xs:List (Bool×X)}:pss N j ((true,x)::xs) (some st)=pss N (j+1) xs (some st):=(rfl)
theorem c2v {j:Nat} {xs:List (Bool×X)}:gvs N j xs none=none:=by cases xs<;>rfl
theorem c3e {j:Nat} {xs:List (Bool×X)}:pss N j xs none=none:=by cases xs<;>rfl
theorem a56:∀ (xs:List (Bool×X)) (j:Nat) (st:St),((a4h N j xs).run st).map (·.2)=gvs N j xs (some st)
 | [],j,st=>rfl
 | (b,x)::xs,j,st=>by
  simp only [a4h,Ev.run_bind,Option.bind]
  cases b with
  | true=>
   have h:=c1c (N:=N) (st:=st) x j
   simp only [if_true,gvs]
   rw [<-h]
   cases (b6w N x j).run st with
   | none=>simp [c2v]
   | some r=>exact a56 xs (j+1) r.2
  | false=>
   simp only [Bool.false_eq_true,if_false,Ev.run_pure]
   exact a56 xs (j+1) st
theorem a24:∀ (xs:List (Bool×X)) (j:Nat) (st:St),((a2s N j xs).run st).map (·.2)=pss N j xs (some st)
 | [],j,st=>rfl
 | (b,x)::xs,j,st=>by
  simp only [a2s,Ev.run_bind,Option.bind]
  cases b with
  | false=>
   have h:=c1e (N:=N) (st:=st) x j
   simp only [Bool.false_eq_true,if_false,pss]
   rw [<-h]
   cases (b3x N x j).run st with
   | none=>simp [c3e]
   | some r=>exact a24 xs (j+1) r.2
  | true=>
   simp only [if_true,Ev.run_pure]
   exact a24 xs (j+1) st
def b0p (st:St) (N:Nat) (d:Option Nat) (res:AV):St:=match d with
 | some d=>(st.clear N).thru N d res
 | none=>st.clear N
@[go_sem] theorem d2v {d:Nat} {res:AV}:b0p st N (some d) res=(st.clear N).thru N d res:=(rfl)
@[go_sem] theorem d2u {res:AV}:b0p st N none res=st.clear N:=(rfl)
def cal (P:Program) (G:GG) (N:Nat) (d:Option Nat) (f:FuncId) (pre:List AV) (st1 st2:St) (K:St->Prop):Prop:=
 ∃ res,ACalls P G f pre res/\noRef res=true/\K (b0p (if a0v res then st1 else st2) N d res)
def c16 (P:Program) (G:GG) (N:Nat) (d:Option Nat) (f:FuncId) (n:Nat) (o1 o2:Option St) (K:St->Prop):Prop:=match o1,o2 with
 | some st1,some st2=>cal P G N d f (a37 N n st2) st1 st2 K
 | _,_=>False
def c4z (P:Program) (G:GG) (N:Nat) (d:Option Nat) (f:FuncId) (args:List (Bool×X)) (o1:Option St) (K:St->Prop):Prop:=c16 P G N d f args.length o1 (pss N (N+2) args o1) K
@[congr] theorem c7f {d:Option Nat} {f:FuncId} {args:List (Bool×X)} {o1 o1':Option St} (h:o1=o1'):c4z P G N d f args o1 K=c4z P G N d f args o1' K:=by rw [h]
@[congr] theorem c7g {d:Option Nat} {f:FuncId} {n:Nat} {o1 o2 o2':Option St} (h:o2=o2'):c16 P G N d f n o1 o2 K=c16 P G N d f n o1 o2' K:=by rw [h]
@[congr] theorem d1j {d:Option Nat} {f:FuncId} {pre pre':List AV} {st1 st2:St} (h:pre=pre'):cal P G N d f pre st1 st2 K=cal P G N d f pre' st1 st2 K:=by rw [h]
@[go_sem] theorem d1h {d:Option Nat} {f:FuncId} {args:List (Bool×X)}:c4z P G N d f args (some st) K=c16 P G N d f args.length (some st) (pss N (N+2) args (some st)) K:=(rfl)
@[go_sem] theorem d1i {d:Option Nat} {f:FuncId} {n:Nat} {st2:St}:c16 P G N d f n (some st) (some st2) K=cal P G N d f (a37 N n st2) st st2 K:=(rfl)
@[go_sem] theorem d0m {d:Option Nat} {f:FuncId} {args:List (Bool×X)} {tys:List TypeId} {rest:List AO}:a8l P G N (⟨d,.call f args tys,none⟩::rest) K st=c4z P G N d f args (gvs N (N+2) args (some st)) (a8l P G N rest K):=by
 simp only [a8l,a8b,b1x,c4g]
 rw [<-a56]
 apply propext
 constructor
 ·rintro ⟨st1,st2,res,st3,h1,h2,h3,h4,h5,h6⟩
  have e2:=a24 (N:=N) args (N+2) st1
  rw [h2] at e2
  simp only [h1,Option.map,c4z,c16,<-e2]
  refine ⟨res,h3,h4,?_⟩
  have:b0p (if a0v res then st1 else st2) N d res=st3:=by
   cases d with
   | none=>
    simp only [b51,Ev.run_pure,Option.some.injEq,Prod.mk.injEq,true_and] at h5
    exact h5
   | some d=>
    simp only [b51,a57,Option.some.injEq,Prod.mk.injEq,true_and] at h5
    exact h5
  rw [this]; exact h6
 ·cases h1:(a4h N (N+2) args).run st with
  | none=>intro h; simp only [Option.map,c4z,c16] at h
  | some r=>
   obtain ⟨_,st1⟩:=r
   simp only [Option.map,c4z]
   rw [<-a24]
   cases h2:(a2s N (N+2) args).run st1 with
   | none=>intro h; simp only [Option.map,c16] at h
   | some r2=>
    obtain ⟨_,st2⟩:=r2
    simp only [Option.map,c16]
    rintro ⟨res,h3,h4,h5⟩
    refine ⟨st1,st2,res,_,rfl,h2,h3,h4,?_,h5⟩
    cases d<;>rfl
@[go_sem] theorem e6t:a37 N 0 st=[]:=(rfl)
@[go_sem] theorem e6u:a37 N 1 st=[st.s (N+2+0)]:=(rfl)
@[go_sem] theorem e6v:a37 N 2 st=[st.s (N+2+0),st.s (N+2+1)]:=(rfl)
@[go_sem] theorem e6w:a37 N 3 st=[st.s (N+2+0),st.s (N+2+1),st.s (N+2+2)]:=(rfl)
@[go_sem] theorem e6x:a37 N 4 st=[st.s (N+2+0),st.s (N+2+1),st.s (N+2+2),st.s (N+2+3)]:=(rfl)
@[go_sem] theorem e6y:a37 N 5 st=[st.s (N+2+0),st.s (N+2+1),st.s (N+2+2),st.s (N+2+3),st.s (N+2+4)]:=(rfl)
@[go_sem] theorem e6z:a37 N 6 st=[st.s (N+2+0),st.s (N+2+1),st.s (N+2+2),st.s (N+2+3),st.s (N+2+4),st.s (N+2+5)]:=(rfl)
theorem a0p {d:Option Nat} {f:FuncId} {pre:List AV} {st1 st2:St} {res:AV} (hA:ACalls P G f pre res) (hn:noRef res=true) (hi:a0v res=true) (h:K (b0p st1 N d res)):cal P G N d f pre st1 st2 K:=⟨res,hA,hn,by rw [hi]; exact h⟩
theorem c40 {d:Option Nat} {f:FuncId} {pre:List AV} {st1 st2:St} {res:AV} (hA:ACalls P G f pre res) (hn:noRef res=true) (h:K (b0p st1 N d res)) (h2:K (b0p st2 N d res)):cal P G N d f pre st1 st2 K:=⟨res,hA,hn,by split; exact h; exact h2⟩
inductive RV where
 | tmp (t:Nat)
 | cell (t:Nat)
 | cells (t sz:Nat)
def RV.ok (P:Program) (N:Nat):RV->ResultVar->Bool
 | .tmp t,.tmp t'=>t==t'&&decide (t < N)
 | .cell t,.cell t' T=>t==t'&&decide (t < N)&&b2g P T==some false
 | .cells t sz,.cell t' T=>t==t'&&decide (t < N)&&b2g P T==some true&&a71 P T sz
 | _,_=>false
def b5q (r:RV) (st:St):Option AV:=match r with
 | .tmp t=>if noRef (st.s t) then some (st.s t) else none
 | .cell t=>match st.s t with
  | .var [k]=>some k
  | _=>none
 | .cells t sz=>match st.s t with
  | .var ks=>gO (ks.length=sz) (some (.agg ks))
  | _=>none
theorem b7l {r:RV} {v:ResultVar} {k:AV} (h:r.ok P N v=true) (hk:b5q r st=some k):a90 P N st v=some k:=by
 cases r with
 | tmp t=>
  cases v<;>simp only [RV.ok,Bool.and_eq_true,beq_iff_eq,decide_eq_true_eq,Bool.false_eq_true] at h
  obtain ⟨rfl,h⟩:=h
  simp only [b5q] at hk
  simp only [a90,h,decide_true,Bool.true_and]
  exact hk
 | cell t=>
  cases v<;>simp only [RV.ok,Bool.and_eq_true,beq_iff_eq,decide_eq_true_eq,Bool.false_eq_true] at h
  obtain ⟨⟨rfl,h1⟩,h2⟩:=h
  simp only [b5q] at hk
  simp only [a90,h1,if_true]
  split at hk
  ·rename_i k' hs
   rw [hs]
   simp only [h2]
   exact hk
  ·cases hk
 | cells t sz=>
  cases v<;>simp only [RV.ok,Bool.and_eq_true,beq_iff_eq,decide_eq_true_eq,Bool.false_eq_true] at h
  obtain ⟨⟨⟨rfl,h1⟩,h2⟩,h3⟩:=h
  simp only [b5q] at hk
  simp only [a90,h1,if_true]
  split at hk
  ·rename_i ks hs
   simp only [gO] at hk
   split at hk
   ·rename_i hl
    rw [hs]
    simp only [h2,hl,h3,if_true]
    exact hk
   ·cases hk
  ·cases hk
def rvL:List RV->St->Option (List AV)
 | [],_=>some []
 | r::rs,st=>match b5q r st,rvL rs st with
  | some k,some ks=>some (k::ks)
  | _,_=>none
def b5r (P:Program) (N:Nat):List RV->List ResultVar->Bool
 | [],[]=>true
 | r::rs,v::vs=>r.ok P N v&&b5r P N rs vs
 | _,_=>false
theorem b1e:∀ {rs:List RV} {vs:List ResultVar} {ks:List AV},b5r P N rs vs=true->rvL rs st=some ks->c4a P N st vs=some ks
 | [],[],ks,_,hk=>hk
 | [],_::_,ks,h,_=>by cases h
 | _::_,[],ks,h,_=>by cases h
 | r::rs,v::vs,ks,h,hk=>by
  simp only [b5r,Bool.and_eq_true] at h
  simp only [rvL] at hk
  split at hk
  ·rename_i k ks' h1 h2
   simp only [c4a,b7l h.1 h1,b1e h.2 h2]
   exact hk
  ·cases hk
def c93 (rs:List RV) (st:St):Option AV:=match rvL rs st with
 | some [k]=>some k
 | some ks=>some (.tup ks)
 | none=>none
def c5e (rs:List RV) (res:AV):Exit->St->Prop
 | .normal,st | .ret,st=>c93 rs st=some res
 | _,_=>False
@[congr] theorem c76 {rs:List RV} {res:AV} {e:Exit} {st':St} (h2:st=st'):c5e rs res e st=c5e rs res e st':=by rw [h2]
def rv1 (r:RV) (v:AV):Option AV:=match r with
 | .tmp t=>if noRef v then some v else none
 | .cell t=>match v with
  | .var [k]=>some k
  | _=>none
 | .cells t sz=>match v with
  | .var ks=>gO (ks.length=sz) (some (.agg ks))
  | _=>none
def avs (a:Option AV) (l:Option (List AV)):Option (List AV):=match a,l with
 | some k,some ks=>some (k::ks)
 | _,_=>none
def c6q (l:Option (List AV)):Option AV:=match l with
 | some [k]=>some k
 | some ks=>some (.tup ks)
 | none=>none
@[go_sem] theorem f2j {k:AV}:c6q (some [k])=some k:=(rfl)
@[go_sem] theorem f2i:c6q (some [])=some (.tup []):=(rfl)
@[go_sem] theorem f2k {a b:AV} {ks:List AV}:c6q (some (a::b::ks))=some (.tup (a::b::ks)):=(rfl)
@[go_sem] theorem d8a {k:AV} {ks:List AV}:avs (some k) (some ks)=some (k::ks):=(rfl)
@[go_sem] theorem e7o {t:Nat} {v:AV}:rv1 (.tmp t) v=if noRef v then some v else none:=(rfl)
@[go_sem] theorem e1z {t:Nat} {k:AV}:rv1 (.cell t) (.var [k])=some k:=(rfl)
@[go_sem] theorem d6v {t sz:Nat} {ks:List AV}:rv1 (.cells t sz) (.var ks)=gO (ks.length=sz) (some (.agg ks)):=(rfl)
@[go_sem] theorem e7p:rvL [] st=some []:=(rfl)
@[go_sem] theorem e7q {t:Nat} {rs:List RV}:rvL (.tmp t::rs) st=avs (rv1 (.tmp t) (st.s t)) (rvL rs st):=by
 simp only [rvL,avs,b5q,rv1]
@[go_sem] theorem e10 {t:Nat} {rs:List RV}:rvL (.cell t::rs) st=avs (rv1 (.cell t) (st.s t)) (rvL rs st):=by
 simp only [rvL,avs,b5q,rv1]
@[go_sem] theorem d6w {t sz:Nat} {rs:List RV}:rvL (.cells t sz::rs) st=avs (rv1 (.cells t sz) (st.s t)) (rvL rs st):=by
 simp only [rvL,avs,b5q,rv1]
@[go_sem] theorem e91 {rs:List RV} {res:AV}:c5e rs res .normal st=(c6q (rvL rs st)=some res):=(rfl)
@[go_sem] theorem e92 {rs:List RV} {res:AV}:c5e rs res .ret st=(c6q (rvL rs st)=some res):=(rfl)
theorem b8u {rs:List RV} {vs:List ResultVar} {res:AV} (h:b5r P N rs vs=true):∀ e st,c5e rs res e st->c74 P N vs res e st:=by
 intro e st hq
 have key:c93 rs st=some res->b01 P N st vs=some res:=by
  intro hk
  unfold c93 at hk
  cases hl:rvL rs st with
  | none=>rw [hl] at hk; cases hk
  | some ks=>
   rw [hl] at hk
   simp only [b01,b1e h hl]
   exact hk
 cases e<;>first | exact key hq | exact hq
end
theorem ACalls.of_walk {P:Program} {G:GG} {f:FuncId} {fn:Func} {c:Code} {N:Nat} {vs:List ResultVar} {rs:List RV} {ic:IC} (hord:P.follows .mixedOrders=true) (hf:P.funcs[f]? =some fn) (hb:fn.body=some c) (hN:fn.ntmps=N) (hrs:fn.results.toList=vs) (hnd:(vs.map rvT).Nodup)
  (he:a7x c=ic.ec) (hok:ic.ok P N=true) (hr:b5r P N rs vs=true) {pre:List AV} {res:AV} (hsz:pre.length<=N) (h:AW P G N ic (c5e rs res) (St.init pre)):ACalls P G f pre res:=
 b1y hf hb hN hrs hnd hsz ((b7u hord ic c _ _ he hok (IC.pin_nil ic) h).mono (b8u hr))
section
variable {k:IntKind} {a b:Int}
theorem a3f {b:BinOp} {k:IntKind} {x y:Int} {v:Value} (h:a1f b (.int k x) (.int k y)=some v) {kd:Nat} (hk:kd=0):a2e b kd (.lit (.int k x)) (.lit (.int k y))=some (.lit v):=by
 subst hk; simp [a2e,b64,h]
theorem c4n:a1f .add (.int k a) (.int k b)=some (.int k (k.wrap (a+b))):=by simp [a1f,Op.intArith]; rfl
theorem c4y:a1f .sub (.int k a) (.int k b)=some (.int k (k.wrap (a - b))):=by simp [a1f,Op.intArith]; rfl
theorem c4t:a1f .mul (.int k a) (.int k b)=some (.int k (k.wrap (a*b))):=by simp [a1f,Op.intArith]; rfl
theorem c4o:a1f .eql (.int k a) (.int k b)=some (.bool (a==b)):=by simp [a1f,Op.intCmp]; rfl
theorem c4u:a1f .neq (.int k a) (.int k b)=some (.bool (a != b)):=by simp [a1f,Op.intCmp]; rfl
theorem c4s:a1f .lss (.int k a) (.int k b)=some (.bool (decide (a < b))):=by simp [a1f,Op.intCmp]; rfl
theorem c4r:a1f .leq (.int k a) (.int k b)=some (.bool (decide (a<=b))):=by simp [a1f,Op.intCmp]; rfl
theorem c4q:a1f .gtr (.int k a) (.int k b)=some (.bool (decide (a > b))):=by simp [a1f,Op.intCmp]; rfl
theorem c4p:a1f .geq (.int k a) (.int k b)=some (.bool (decide (a ≥ b))):=by simp [a1f,Op.intCmp]; rfl
@[go_sem] theorem e8u:a2e .add 0 (.lit (.int k a)) (.lit (.int k b))=some (.lit (.int k (k.wrap (a+b)))):=a3f c4n rfl
@[go_sem] theorem e85:a2e .sub 0 (.lit (.int k a)) (.lit (.int k b))=some (.lit (.int k (k.wrap (a - b)))):=a3f c4y rfl
@[go_sem] theorem e80:a2e .mul 0 (.lit (.int k a)) (.lit (.int k b))=some (.lit (.int k (k.wrap (a*b)))):=a3f c4t rfl
@[go_sem] theorem e8v:a2e .eql 0 (.lit (.int k a)) (.lit (.int k b))=some (.lit (.bool (decide (a=b)))):=by
 rw [a3f c4o rfl]; simp only [Option.some.injEq,AV.lit.injEq,Value.bool.injEq]; by_cases h:a=b<;>simp [h]
@[go_sem] theorem e81:a2e .neq 0 (.lit (.int k a)) (.lit (.int k b))=some (.lit (.bool (!decide (a=b)))):=by
 rw [a3f c4u rfl]; simp only [Option.some.injEq,AV.lit.injEq,Value.bool.injEq]; by_cases h:a=b<;>simp [h]
@[go_sem] theorem e8z:a2e .lss 0 (.lit (.int k a)) (.lit (.int k b))=some (.lit (.bool (decide (a < b)))):=a3f c4s rfl
@[go_sem] theorem e8y:a2e .leq 0 (.lit (.int k a)) (.lit (.int k b))=some (.lit (.bool (decide (a<=b)))):=a3f c4r rfl
@[go_sem] theorem e8x:a2e .gtr 0 (.lit (.int k a)) (.lit (.int k b))=some (.lit (.bool (decide (b < a)))):=a3f c4q rfl
@[go_sem] theorem e8w:a2e .geq 0 (.lit (.int k a)) (.lit (.int k b))=some (.lit (.bool (decide (b<=a)))):=a3f c4p rfl
end
section
variable {a b:Bool}
@[go_sem] theorem e2w:a2e .eql 1 (.lit (.bool a)) (.lit (.bool b))=some (.lit (.bool (decide (a=b)))):=by cases a<;>cases b<;>rfl
@[go_sem] theorem e2x:a2e .neq 1 (.lit (.bool a)) (.lit (.bool b))=some (.lit (.bool (!decide (a=b)))):=by cases a<;>cases b<;>rfl
@[go_sem] theorem d0w:a2e .eql 2 (.lit .nilIface) (.lit .nilIface)=some (.lit (.bool true)):=(rfl)
@[go_sem] theorem d0z:a2e .neq 2 (.lit .nilIface) (.lit .nilIface)=some (.lit (.bool false)):=(rfl)
@[go_sem] theorem d0v {T:TypeId} {v:Value}:a2e .eql 2 (.lit (.iface T v)) (.lit .nilIface)=some (.lit (.bool false)):=(rfl)
@[go_sem] theorem d0y {T:TypeId} {v:Value}:a2e .neq 2 (.lit (.iface T v)) (.lit .nilIface)=some (.lit (.bool true)):=(rfl)
@[go_sem] theorem d0u {T:TypeId} {k:AV}:a2e .eql 2 (.ifc T k) (.lit .nilIface)=some (.lit (.bool false)):=(rfl)
@[go_sem] theorem d0x {T:TypeId} {k:AV}:a2e .neq 2 (.ifc T k) (.lit .nilIface)=some (.lit (.bool true)):=(rfl)
@[go_sem] theorem d01:a2e .eql 3 (.lit (.pointer none)) (.lit (.pointer none))=some (.lit (.bool true)):=(rfl)
@[go_sem] theorem d03:a2e .neq 3 (.lit (.pointer none)) (.lit (.pointer none))=some (.lit (.bool false)):=(rfl)
@[go_sem] theorem d00 {ks:List AV} {o:Nat}:a2e .eql 3 (.ip ks o) (.lit (.pointer none))=some (.lit (.bool false)):=(rfl)
@[go_sem] theorem d02 {ks:List AV} {o:Nat}:a2e .neq 3 (.ip ks o) (.lit (.pointer none))=some (.lit (.bool true)):=(rfl)
end
theorem e3h {p:Prop} [Decidable p] (h:p):decide p=true:=decide_eq_true h
theorem e3g {p:Prop} [Decidable p] (h:¬ p):decide p=false:=decide_eq_false h
theorem b5x {n:Int} (h: -9223372036854775808<=n/\n<=9223372036854775807):IntKind.i64.wrap n=n:=by rw [IntKind.wrap_i64]; omega
section
variable {α:Type} {f:α->AV}
theorem c5q [Inhabited α] {xs:List α} {i:Nat} (h:i < xs.length):(xs.map f)[i]? =some (f xs[i]!):=by
 simp [h]
theorem splice_one {β:Type} {l:List β} {o:Nat} {v:β} (h:o < l.length):a0o l o [v]=l.set o v:=by
 simp only [a0o,List.length_cons,List.length_nil]
 rw [List.set_eq_take_append_cons_drop,if_pos h]
 simp
theorem b9k {xs:List α} {o:Nat} {v:AV} (h:o < xs.length):a0o (xs.map f) o [v]=(xs.map f).set o v:=splice_one (by simpa using h)
theorem b33 {xs:List α} {o i:Nat} {v w:AV} (h:o < xs.length):a0o ((xs.map f).set i w) o [v]=((xs.map f).set i w).set o v:=splice_one (by simpa using h)
@[go_sem] theorem c4e {xs:List α}:List.take xs.length (xs.map f)=xs.map f:=List.take_of_length_le (by simp)
end
@[go_sem] theorem c99 {α:Type} {l:List α} {o:Nat}:a0o l o []=l:=by simp [a0o]
@[go_sem] theorem e18 {α:Type} {a x:α} {l xs:List α}:a0o (a::l) 0 (x::xs)=x::a0o l 0 xs:=by simp [a0o]
@[go_sem] theorem e17 {α:Type} {a:α} {l xs:List α} {o:Nat}:a0o (a::l) (o+1) xs=a::a0o l o xs:=by
 simp [a0o,show o+1+xs.length=(o+xs.length)+1 by omega]
@[go_sem] theorem a9q {α:Type} {f:α->AV} {xs:List α} (h:∀ x,a0j (f x)=true):a0k (xs.map f)=true:=by
 induction xs with
 | nil=>rfl
 | cons x xs ih=>simp [a0k,h,ih]
@[go_sem] theorem a9o {α:Type} {f:α->AV} {xs:List α} (h:∀ x,a0v (f x)=true):a01 (xs.map f)=true:=by
 induction xs with
 | nil=>rfl
 | cons x xs ih=>simp [a01,h,ih]
@[go_sem] theorem d9i {α:Type} {f:α->AV} {xs:List α}:a1b (xs.map f)=xs.map fun x=>frz (f x):=by
 induction xs with
 | nil=>rfl
 | cons x xs ih=>simp [a1b,ih]
@[go_sem] theorem f1y {n:Nat} {z:AV}:b1u n [z]=List.replicate n z:=by
 simp only [b1u]; induction n with
 | zero=>rfl
 | succ n ih=>simp [List.replicate_succ,ih]
def iG (v:Option AV):AV:=match v with
 | some v=>v
 | none=> .lit undef
@[go_sem] theorem e5g {v:AV}:iG (some v)=v:=(rfl)
@[go_sem] theorem e5f:iG none= .lit undef:=(rfl)
@[go_sem] theorem e7s {pre:List AV} {t:Nat}:(St.init pre).s t=iG pre[t]? :=by
 simp only [St.init,iG]; cases pre[t]? <;>rfl
@[go_sem] theorem e12 {pre:List AV} {t:Nat}:(St.init pre).ep t=0:=(rfl)
attribute [go_sem] List.getElem?_cons_zero List.getElem?_cons_succ List.getElem?_nil List.map_nil List.map_cons List.length_cons List.length_nil Nat.zero_add Nat.add_zero Nat.mul_one Nat.mul_zero Nat.zero_mul List.set_cons_zero List.set_cons_succ List.append_nil List.nil_append List.cons_append List.drop_zero List.take_zero List.drop_succ_cons List.take_succ_cons List.take_nil List.drop_nil Int.toNat_natCast List.length_map List.isEmpty_nil List.isEmpty_cons beq_self_eq_true Option.map_some Option.map_none decide_true decide_false and_true true_and Bool.true_or Bool.or_true Bool.false_or Bool.or_false List.take_length List.length_replicate List.map_map Function.comp_def Option.some.injEq
section
variable {P:Program} {G:GG} {N:Nat}
theorem a03 {Q:Exit->St->Prop} {st:St} {a:IC} (ι:Type) (I:ι->St->Prop) (μ:ι->Nat) (i0:ι) (h0:I i0 st) (h:∀ i st K,I i st->(∀ i' st',I i' st'->μ i' < μ i->K st')->AW P G N a (b1n K Q) st):AW P G N (.loop a) Q st:=
 ⟨ι,I,μ,i0,h0,fun i st hi=>h i st _ hi fun i' st' h1 h2=>⟨i',h1,h2⟩⟩
section
variable {kl:Nat->List Nat->Bool} {v:Value} {n sz o e t lo f T:Nat} {q:List Nat} {ks a b:List AV} {k:AV}
@[go_sem] theorem c8q:a0x kl .dead= .dead:=by simp only [a0x]
@[go_sem] theorem d3u:a0x kl (.lit v)= .lit v:=by simp only [a0x]
@[go_sem] theorem d9w:a0x kl (.sl n ks)= .sl n ks:=by simp only [a0x]
@[go_sem] theorem d9v:a0x kl (.ip ks o)= .ip ks o:=by simp only [a0x]
@[go_sem] theorem d3v:a0x kl (.own sz n ks)= .own sz n ks:=by simp only [a0x]
@[go_sem] theorem d3y:a0x kl (.var ks)= .var ks:=by simp only [a0x]
@[go_sem] theorem d3r:a0x kl (.agg ks)= .agg ks:=by simp only [a0x]
@[go_sem] theorem d3x:a0x kl (.tup ks)= .tup ks:=by simp only [a0x]
@[go_sem] theorem d3t:a0x kl (.ifc T k)= .ifc T k:=by simp only [a0x]
@[go_sem] theorem d9u:a0x kl (.fn f a b)= .fn f (b0c kl a) (b0c kl b):=by simp only [a0x]
@[go_sem] theorem d3w:a0x kl (.ref t q o e)=if kl t q then .dead else .ref t q o e:=by simp only [a0x]
@[go_sem] theorem d3s:a0x kl (.bor t q lo n e)=if kl t q then .dead else .bor t q lo n e:=by simp only [a0x]
@[go_sem] theorem d5d:a0j (.lit v)=true:=by simp only [a0j]
@[go_sem] theorem e0r:a0j (.sl n ks)=true:=by simp only [a0j]
@[go_sem] theorem e0q:a0j (.ip ks o)=true:=by simp only [a0j]
@[go_sem] theorem e0p:a0j (.fn f a b)=true:=by simp only [a0j]
@[go_sem] theorem d5f:a0j (.ref t q o e)=true:=by simp only [a0j]
@[go_sem] theorem d5b:a0j (.bor t q lo n e)=true:=by simp only [a0j]
@[go_sem] theorem e4s:frz (.lit v)= .lit v:=by simp only [frz]
@[go_sem] theorem f0c:frz (.sl n ks)= .sl n ks:=by simp only [frz]
@[go_sem] theorem f0b:frz (.ip ks o)= .ip ks o:=by simp only [frz]
@[go_sem] theorem f0a:frz (.fn f a b)= .fn f a b:=by simp only [frz]
@[go_sem] theorem d43:a0v (.lit v)=true:=by simp only [a0v]
@[go_sem] theorem c86:a0v .dead=true:=by simp only [a0v]
@[go_sem] theorem d5e:a0j (.own sz n ks)=false:=by simp only [a0j]
@[go_sem] theorem d5h:a0j (.var ks)=false:=by simp only [a0j]
@[go_sem] theorem d5a:a0j (.agg ks)=a0k ks:=by simp only [a0j]
@[go_sem] theorem d5g:a0j (.tup ks)=a0k ks:=by simp only [a0j]
@[go_sem] theorem d5c:a0j (.ifc T k)=a0j k:=by simp only [a0j]
@[go_sem] theorem e4t:frz (.own sz n ks)= .sl n (a1b ks):=by simp only [frz]
@[go_sem] theorem e4v:frz (.var ks)= .ip (a1b ks) 0:=by simp only [frz]
@[go_sem] theorem e4q:frz (.agg ks)= .agg (a1b ks):=by simp only [frz]
@[go_sem] theorem e4u:frz (.tup ks)= .tup (a1b ks):=by simp only [frz]
@[go_sem] theorem e4r:frz (.ifc T k)= .ifc T (frz k):=by simp only [frz]
@[go_sem] theorem e0o:a0v (.sl n ks)=ks.isEmpty:=by simp only [a0v]
@[go_sem] theorem e0n:a0v (.ip ks o)=false:=by simp only [a0v]
@[go_sem] theorem d44:a0v (.own sz n ks)=a01 ks:=by simp only [a0v]
@[go_sem] theorem d46:a0v (.var ks)=a01 ks:=by simp only [a0v]
@[go_sem] theorem d41:a0v (.agg ks)=a01 ks:=by simp only [a0v]
@[go_sem] theorem d45:a0v (.tup ks)=a01 ks:=by simp only [a0v]
@[go_sem] theorem d42:a0v (.ifc T k)=a0v k:=by simp only [a0v]
@[go_sem] theorem e0m:a0v (.fn f a b)=(a01 a&&a01 b):=by simp only [a0v]
@[go_sem] theorem d5n:noRef (.ref t q o e)=false:=by simp only [noRef]
@[go_sem] theorem d5j:noRef (.bor t q lo n e)=false:=by simp only [noRef]
@[go_sem] theorem e0s:noRef (.fn f a b)=(a3b.noRefL a&&a3b.noRefL b):=by simp only [noRef]
@[go_sem] theorem d5l:noRef (.lit v)=true:=by simp only [noRef]
@[go_sem] theorem e0u:noRef (.sl n ks)=true:=by simp only [noRef]
@[go_sem] theorem e0t:noRef (.ip ks o)=true:=by simp only [noRef]
@[go_sem] theorem d5m:noRef (.own sz n ks)=true:=by simp only [noRef]
@[go_sem] theorem d5p:noRef (.var ks)=true:=by simp only [noRef]
@[go_sem] theorem d5i:noRef (.agg ks)=true:=by simp only [noRef]
@[go_sem] theorem d5o:noRef (.tup ks)=true:=by simp only [noRef]
@[go_sem] theorem d5k:noRef (.ifc T k)=true:=by simp only [noRef]
end
attribute [go_sem] e3h e3g d3g b5x c5q b9k b33 List.set_set List.map_append List.length_append List.length_set
end
theorem a3h {N:Nat} {α β:Type}:∀ (x:Ev α) (f:α->Ev β) (st:St) (sw:List Nat),(x >>=f).runF N st sw=(x.runF N st sw).bind fun r=>((f r.a).runF N r.st r.sw).map fun r2=>{ r2 with rd:=r.rd++r2.rd,wr:=r.wr++r2.wr }
 | .ret a,f,st,sw=>by
  show (f a).runF N st sw=_
  simp [Ev.runF]
 | .fail,f,st,sw=>rfl
 | .get t k,f,st,sw=>by
  show (Ev.get t fun v e=>k v e >>=f).runF N st sw=_
  simp only [Ev.runF]
  split
  ·rw [a3h]
   cases (k (st.s t) (st.ep t)).runF N st sw with
   | none=>rfl
   | some r=>simp [Function.comp_def]
  ·rfl
 | .getv t k,f,st,sw=>by
  show (Ev.getv t fun v=>k v >>=f).runF N st sw=_
  simp only [Ev.runF]
  split
  ·rw [a3h]
   cases (k (st.s t)).runF N st sw with
   | none=>rfl
   | some r=>simp [Function.comp_def]
  ·split
   ·rw [a3h]
   ·rfl
 | .put t v k,f,st,sw=>by
  show (Ev.put t v (k >>=f)).runF N st sw=_
  simp only [Ev.runF]
  split
  ·rw [a3h]
   cases k.runF N (st.put t v) sw with
   | none=>rfl
   | some r=>simp [Function.comp_def]
  ·rw [a3h]
 | .upd t v k,f,st,sw=>by
  show (Ev.upd t v (k >>=f)).runF N st sw=_
  simp only [Ev.runF]
  split
  ·rw [a3h]
   cases k.runF N (st.set t v) sw with
   | none=>rfl
   | some r=>simp [Function.comp_def]
  ·rw [a3h]
 | .kill t q o m k,f,st,sw=>by
  show (Ev.kill t q o m (k >>=f)).runF N st sw=_
  simp only [Ev.runF]
  rw [a3h]
  cases k.runF N (st.kill t q o m) sw with
  | none=>rfl
  | some r=>simp [Function.comp_def]
def a1z:AV->Option Nat
 | .ref t _ _ _=>some t
 | .bor t _ _ _ _=>some t
 | .loan ks=>b47 ks
 | _=>none
def FpP (D:Nat->Prop) (N:Nat) {α:Type} (e:Ev α) (st:St) (sw:List Nat) (Post:α->St->List Nat->Prop):Prop:=
 ∀ a st',e.run st=some (a,st')->∃ rd wr sw',e.runF N st sw=some ⟨a,st',rd,wr,sw'⟩/\(∀ t∈rd,D t)/\(∀ t∈wr,D t)/\Post a st' sw'
section
variable {D:Nat->Prop} {N:Nat} {α β:Type} {st:St} {sw:List Nat} {Post:β->St->List Nat->Prop} {f:α->Ev β}
theorem FpP.bindM {x:Ev α} (h:FpP D N x st sw (fun a st' sw'=>FpP D N (f a) st' sw' Post)):FpP D N (x >>=f) st sw Post:=by
 intro a st' hr
 rw [Ev.run_bind] at hr
 cases hx:x.run st with
 | none=>rw [hx] at hr; cases hr
 | some r=>
  obtain ⟨b,st1⟩:=r
  rw [hx] at hr
  obtain ⟨rd,wr,sw1,h1,h2,h3,h4⟩:=h b st1 hx
  obtain ⟨rd2,wr2,sw2,g1,g2,g3,g4⟩:=h4 a st' hr
  refine ⟨rd++rd2,wr++wr2,sw2,?_,?_,?_,g4⟩
  ·rw [a3h,h1]; simp only [Option.bind,g1,Option.map]
  ·intro t ht; rcases List.mem_append.1 ht with ht | ht; exact h2 t ht; exact g2 t ht
  ·intro t ht; rcases List.mem_append.1 ht with ht | ht; exact h3 t ht; exact g3 t ht
theorem FpP.mono {Q:α->St->List Nat->Prop} {P:α->St->List Nat->Prop} {x:Ev α} (h:FpP D N x st sw P) (hpq:∀ a st' sw',P a st' sw'->Q a st' sw'):FpP D N x st sw Q:=by
 intro a st' hr
 obtain ⟨rd,wr,sw1,h1,h2,h3,h4⟩:=h a st' hr
 exact ⟨rd,wr,sw1,h1,h2,h3,hpq _ _ _ h4⟩
theorem FpP.ret {a:α} {P:α->St->List Nat->Prop} (h:P a st sw):FpP D N (Ev.ret a) st sw P:=by
 intro b st' hr
 simp only [Ev.run,Option.some.injEq,Prod.mk.injEq] at hr
 obtain ⟨rfl,rfl⟩:=hr
 exact ⟨[],[],sw,rfl,by simp,by simp,h⟩
theorem FpP.fail {P:α->St->List Nat->Prop}:FpP D N (Ev.fail:Ev α) st sw P:=by
 intro b st' hr; cases hr
theorem FpP.get {t:Nat} {P:(AV×Nat)->St->List Nat->Prop} (hD:D t) (hN:t < N) (h:P (st.s t,st.ep t) st sw):FpP D N (a9g t) st sw P:=by
 intro b st' hr
 rw [a07] at hr
 simp only [Option.some.injEq,Prod.mk.injEq] at hr
 obtain ⟨rfl,rfl⟩:=hr
 exact ⟨[t],[],sw,by simp [a9g,Ev.runF,hN],by simpa using hD,by simp,h⟩
theorem FpP.getv {t:Nat} {P:AV->St->List Nat->Prop} (hN:¬ t < N) (hs:t∈sw) (h:P (st.s t) st sw):FpP D N (b6v t) st sw P:=by
 intro b st' hr
 rw [a38] at hr
 simp only [Option.some.injEq,Prod.mk.injEq] at hr
 obtain ⟨rfl,rfl⟩:=hr
 exact ⟨[],[],sw,by simp [b6v,Ev.runF,hN,hs],by simp,by simp,h⟩
theorem FpP.put {t:Nat} {v:AV} {P:Unit->St->List Nat->Prop} (hD:D t) (hN:t < N) (h:P () (st.put t v) sw):FpP D N (a2a t v) st sw P:=by
 intro b st' hr
 rw [a5l] at hr
 simp only [Option.some.injEq,Prod.mk.injEq,true_and] at hr
 subst hr
 exact ⟨[],[t],sw,by simp [a2a,Ev.runF,hN],by simp,by simpa using hD,h⟩
theorem FpP.putN {t:Nat} {v:AV} {P:Unit->St->List Nat->Prop} (hN:¬ t < N) (h:P () (st.put t v) (t::sw)):FpP D N (a2a t v) st sw P:=by
 intro b st' hr
 rw [a5l] at hr
 simp only [Option.some.injEq,Prod.mk.injEq,true_and] at hr
 subst hr
 exact ⟨[],[],t::sw,by simp [a2a,Ev.runF,hN],by simp,by simp,h⟩
theorem FpP.upd {t:Nat} {v:AV} {P:Unit->St->List Nat->Prop} (hD:D t) (hN:t < N) (h:P () (st.set t v) sw):FpP D N (a9f t v) st sw P:=by
 intro b st' hr
 rw [a9b] at hr
 simp only [Option.some.injEq,Prod.mk.injEq,true_and] at hr
 subst hr
 exact ⟨[],[t],sw,by simp [a9f,Ev.runF,hN],by simp,by simpa using hD,h⟩
theorem FpP.kill {t o m:Nat} {q:List Nat} {P:Unit->St->List Nat->Prop} (hD:∀ u,u < N->D u) (h:P () (st.kill t q o m) sw):FpP D N (b8y t q o m) st sw P:=by
 intro a st' hr
 rw [b5n] at hr
 simp only [Option.some.injEq,Prod.mk.injEq,true_and] at hr
 subst hr
 exact ⟨List.range N++[],List.range N++[],sw,rfl,fun u hu=>hD u (by simpa using hu),fun u hu=>hD u (by simpa using hu),h⟩
theorem FpP.guard {b:Bool} {P:Unit->St->List Nat->Prop} (h:b=true->P () st sw):FpP D N (a0f b) st sw P:=by
 cases b
 ·exact FpP.fail
 ·exact FpP.ret (h rfl)
theorem FpP.opt {o:Option α} {P:α->St->List Nat->Prop} (h:∀ a,o=some a->P a st sw):FpP D N (a2r o) st sw P:=by
 cases o
 ·exact FpP.fail
 ·exact FpP.ret (h _ rfl)
structure XO (D:Nat->Prop) (N:Nat) (st:St) (x:X):Prop where
 t:∀ t,x= .t t->D t/\t < N
 b:∀ u,a1z (rdv st x)=some u->D u/\u < N
theorem FpP.read {x:X} {P:(AV×Nat)->St->List Nat->Prop} (hx:XO D N st x) (h:P (rdv st x,rde st x) st sw):FpP D N (a1k x) st sw P:=by
 cases x with
 | t t=>exact FpP.get (hx.t t rfl).1 (hx.t t rfl).2 h
 | _=>exact FpP.ret h
theorem FpP.tmp {x:X} {P:Nat->St->List Nat->Prop} (h:∀ t,x= .t t->P t st sw):FpP D N (a99 x) st sw P:=by
 cases x with
 | t t=>exact FpP.ret (h t rfl)
 | _=>exact FpP.fail
theorem FpP.setD {d:Option Nat} {v:AV} {P:Unit->St->List Nat->Prop} (hd:∀ t,d=some t->D t/\t < N) (h:∀ t,d=some t->P () (st.put t v) sw):FpP D N (setD d v) st sw P:=by
 cases d with
 | none=>exact FpP.fail
 | some t=>exact FpP.put (hd t rfl).1 (hd t rfl).2 (h t rfl)
theorem FpP.thru {d:Option Nat} {v:AV} {M:Nat} {P:Unit->St->List Nat->Prop} (hM:N<=M) (hd:∀ t,d=some t->D t/\t < N) (h:∀ st' sw',P () st' sw'):FpP D N (a26 M d v) st sw P:=
 FpP.bindM (FpP.putN (Nat.not_lt.2 hM) (FpP.bindM (FpP.putN (Nat.not_lt.2 hM) (FpP.setD hd fun _ _=>h _ _))))
end
abbrev tt {α:Type}:α->St->List Nat->Prop:=fun _ _ _=>True
section
variable {D:Nat->Prop} {N:Nat} {st:St} {sw:List Nat} {d:Option Nat} {x y:X} {G:GG}
abbrev DD (D:Nat->Prop) (N:Nat) (d:Option Nat):Prop:=∀ t,d=some t->D t/\t < N
theorem d3a (hx:XO D N st x) (hd:DD D N d):FpP D N (mvE x d) st sw tt:=by
 refine FpP.bindM (FpP.read hx ?_)
 cases hv:rdv st x<;>simp only
 case own=>cases x<;>exact FpP.setD hd fun _ _=>trivial
 case var=>exact FpP.bindM (FpP.tmp fun t ht=>FpP.setD hd fun _ _=>trivial)
 case dead=>exact FpP.fail
 all_goals (split<;>first | exact FpP.setD hd fun _ _=>trivial | exact FpP.bindM (FpP.tmp fun t ht=>FpP.bindM (FpP.upd (hx.t t ht).1 (hx.t t ht).2 (FpP.setD hd fun _ _=>trivial))))
theorem c33 (hx:XO D N st x) (hd:DD D N d):FpP D N (c60 N x d) st sw tt:=by
 have tail:∀ v:AV,FpP D N (a66 N d x v) st sw tt:=by
  intro v
  unfold a66
  cases x with
  | t t=>simp only; split; exact FpP.setD hd fun _ _=>trivial; exact FpP.bindM (FpP.put (hx.t t rfl).1 (hx.t t rfl).2 (FpP.thru (Nat.le_refl _) hd fun _ _=>trivial))
  | _=>simp only; split; exact FpP.setD hd fun _ _=>trivial; exact FpP.thru (Nat.le_refl _) hd fun _ _=>trivial
 refine FpP.bindM (FpP.read hx ?_)
 cases hv:rdv st x<;>simp only
 case dead=>exact FpP.fail
 case bor t q lo n e=>
  have hb:=hx.b t (by rw [hv]; rfl)
  refine FpP.bindM (FpP.get hb.1 hb.2 (FpP.bindM (FpP.guard fun _=>FpP.bindM (FpP.opt fun k hk=> ?_))))
  cases k<;>simp only<;>try exact FpP.fail
  refine FpP.bindM (FpP.guard fun _=> ?_)
  split
  ·exact FpP.bindM (FpP.put hb.1 hb.2 (FpP.thru (Nat.le_refl _) hd fun _ _=>trivial))
  ·exact FpP.bindM (FpP.upd hb.1 hb.2 (FpP.setD hd fun _ _=>trivial))
 all_goals exact tail _
theorem a72 {P:Value->St->List Nat->Prop} (hx:XO D N st x) (h:∀ v,P v st sw):FpP D N (b38 x) st sw P:=by
 refine FpP.bindM (FpP.read hx ?_)
 cases hv:rdv st x<;>simp only<;>first | exact FpP.ret (h _) | exact FpP.fail
theorem b42 {P:Int->St->List Nat->Prop} (hx:XO D N st x) (h:∀ v,P v st sw):FpP D N (b76 x) st sw P:=by
 refine FpP.bindM (a72 hx fun v=> ?_)
 cases v<;>simp only<;>first | exact FpP.ret (h _) | exact FpP.fail
theorem a5y {x:Option X} {z:Int} {P:Int->St->List Nat->Prop} (hx:∀ y,x=some y->XO D N st y) (h:∀ v,P v st sw):FpP D N (a2i x z) st sw P:=by
 cases x with
 | none=>exact FpP.ret (h _)
 | some x=>exact b42 (hx x rfl) h
theorem c0l {P:(Nat×List Nat×Nat×Nat)->St->List Nat->Prop} (hx:XO D N st x) (h:∀ t q lo n,D t->t < N->P (t,q,lo,n) st sw):FpP D N (a5x x) st sw P:=by
 refine FpP.bindM (FpP.read hx ?_)
 cases hv:rdv st x<;>simp only<;>try exact FpP.fail
 ·exact FpP.bindM (FpP.tmp fun t ht=>FpP.ret (h _ _ _ _ (hx.t t ht).1 (hx.t t ht).2))
 ·rename_i t q lo n e
  have hb:=hx.b t (by rw [hv]; rfl)
  exact FpP.bindM (FpP.get hb.1 hb.2 (FpP.bindM (FpP.guard fun _=>FpP.ret (h _ _ _ _ hb.1 hb.2))))
theorem d3c {P:(Nat×List Nat×Nat)->St->List Nat->Prop} (hx:XO D N st x) (h:∀ t q o,D t->t < N->P (t,q,o) st sw):FpP D N (b6h x) st sw P:=by
 refine FpP.bindM (FpP.read hx ?_)
 cases hv:rdv st x<;>simp only<;>try exact FpP.fail
 ·exact FpP.bindM (FpP.tmp fun t ht=>FpP.ret (h _ _ _ (hx.t t ht).1 (hx.t t ht).2))
 ·rename_i t q lo e
  have hb:=hx.b t (by rw [hv]; rfl)
  exact FpP.bindM (FpP.get hb.1 hb.2 (FpP.bindM (FpP.guard fun _=>FpP.ret (h _ _ _ hb.1 hb.2))))
theorem a9k {P:(Nat×List Nat×Nat×AV×Nat×List AV)->St->List Nat->Prop} (hx:XO D N st x) (h:∀ t q o v e ks,D t->t < N->P (t,q,o,v,e,ks) st sw):FpP D N (b8h x) st sw P:=
 FpP.bindM (d3c hx fun t q o hD hN=>FpP.bindM (FpP.get hD hN (FpP.bindM (FpP.opt fun ks _=>FpP.bindM (FpP.guard fun _=>FpP.ret (h _ _ _ _ _ _ hD hN))))))
theorem c2o {t:Nat} {q:List Nat} {P:AV->St->List Nat->Prop} (hD:D t) (hN:t < N) (h:∀ k,P k st sw):FpP D N (c06 t q) st sw P:=
 FpP.bindM (FpP.get hD hN (FpP.opt fun _ _=>h _))
theorem c5l {s:Option Nat} (hx:XO D N st x) (hd:DD D N d):FpP D N (b46 d s x) st sw tt:=by
 refine FpP.bindM (a9k hx fun t q o v e ks hD hN=> ?_)
 cases s with
 | none=>
  refine FpP.bindM (FpP.opt fun k _=> ?_)
  cases k<;>simp only [a8w]<;>first | exact FpP.setD hd fun _ _=>trivial | exact FpP.bindM (FpP.guard fun _=>FpP.setD hd fun _ _=>trivial)
 | some s=>
  refine FpP.bindM (FpP.guard fun _=> ?_)
  split
  ·exact FpP.setD hd fun _ _=>trivial
  ·exact FpP.bindM (FpP.upd hD hN (FpP.setD hd fun _ _=>trivial))
end
def BLe (N:Nat) (st st':St):Prop:=∀ t,t < N->a1z (st'.s t)=none\/a1z (st'.s t)=a1z (st.s t)
theorem BLe.refl {N:Nat} (st:St):BLe N st st:=fun t _=> .inr rfl
theorem BLe.trans {N:Nat} {a b c:St} (h:BLe N a b) (h2:BLe N b c):BLe N a c:=fun t ht=>by
 rcases h2 t ht with h3 | h3
 ·exact .inl h3
 ·rcases h t ht with h4 | h4
  ·exact .inl (h3.trans h4)
  ·exact .inr (h3.trans h4)
theorem BLe.put {N:Nat} {st:St} {t:Nat} {v:AV} (h:a1z v=none):BLe N st (st.put t v):=fun u _=>by
 simp only [St.put_s]; split
 ·exact .inl h
 ·exact .inr rfl
theorem BLe.putN {N:Nat} {st:St} {t:Nat} {v:AV} (h:¬ t < N):BLe N st (st.put t v):=fun u hu=>by
 simp only [St.put_s]; rw [if_neg (by omega)]; exact .inr rfl
theorem BLe.set {N:Nat} {st:St} {t:Nat} {v:AV} (h:a1z v=none):BLe N st (st.set t v):=fun u _=>by
 simp only [St.set_s]; split
 ·exact .inl h
 ·exact .inr rfl
theorem XO.le {D:Nat->Prop} {N:Nat} {st st':St} {x:X} (h:XO D N st x) (hl:BLe N st st'):XO D N st' x where
 t:=h.t
 b u hu:=by
  cases x with
  | t t=>
   have ht:=h.t t rfl
   simp only [rdv] at hu
   rcases hl t ht.2 with h1 | h1
   ·rw [h1] at hu; cases hu
   ·exact h.b u (by simp only [rdv]; rw [<-h1]; exact hu)
  | _=>cases hu
theorem a33 {v k:AV} {q:List Nat} {k':AV} (hk:a0c v q=some k) (h:a1z k'=none):a1z (a0h v q k')=none:=by
 cases q with
 | nil=>exact h
 | cons i q=>
  cases v<;>simp only [a0c,a0l,reduceCtorEq] at hk
  ·simp only [a0h,a0l]; split<;>rfl
  ·simp only [a0h,a0l]; split<;>rfl
section
variable {D:Nat->Prop} {N:Nat} {st:St} {sw:List Nat} {d:Option Nat} {x y:X} {G:GG}
theorem b6s {P:Unit->St->List Nat->Prop} (hx:XO D N st x) (h:∀ st' sw',BLe N st st'->(∀ t∈sw,t∈sw')->N∈sw'->(∀ t,N < t->st'.s t=st.s t)->P () st' sw'):FpP D N (a3b x N) st sw P:=by
 have hN:¬ N < N:=Nat.lt_irrefl _
 have one:∀ {v:AV},a1z (AV.dead)=none->FpP D N (a2a N v) st sw P:=fun _=>FpP.putN hN (h _ _ (BLe.putN hN) (fun t ht=>by simp [ht]) (by simp) (fun t ht=>by simp [Nat.ne_of_gt ht]))
 have two:∀ {v:AV} (t:Nat),x= .t t->FpP D N (do a2a t .dead; a2a N v) st sw P:=fun t ht=>FpP.bindM (FpP.put (hx.t t ht).1 (hx.t t ht).2 (FpP.putN hN (h _ _ ((BLe.put rfl).trans (BLe.putN hN)) (fun t ht=>by simp [ht]) (by simp) (fun u hu=>by
  have:=(hx.t t ht).2
  simp [Nat.ne_of_gt hu,show u≠t by omega]))))
 refine FpP.bindM (FpP.read hx ?_)
 cases hv:rdv st x<;>simp only
 case dead=>exact FpP.fail
 case tup=>exact FpP.fail
 case ref=>exact FpP.fail
 case bor t q lo n e=>
  have hb:=hx.b t (by rw [hv]; rfl)
  refine FpP.bindM (FpP.get hb.1 hb.2 (FpP.bindM (FpP.guard fun _=>FpP.bindM (FpP.opt fun k hk=> ?_))))
  cases k<;>simp only<;>try exact FpP.fail
  refine FpP.bindM (FpP.guard fun _=>FpP.bindM (FpP.upd hb.1 hb.2 (FpP.putN hN (h _ _ ((BLe.set (a33 hk rfl)).trans (BLe.putN hN)) (fun t ht=>by simp [ht]) (by simp) (fun u hu=>by
   have:=hb.2
   simp [Nat.ne_of_gt hu,show u≠t by omega])))))
 case agg=>exact FpP.bindM (FpP.tmp fun t ht=>two t ht)
 case own=>
  cases x with
  | t t=>exact two t rfl
  | _=>exact one rfl
 case var=>exact FpP.bindM (FpP.tmp fun t ht=>two t ht)
 case ifc=>exact FpP.bindM (FpP.tmp fun t ht=>two t ht)
 case mp=>exact FpP.bindM (FpP.tmp fun t ht=>two t ht)
 case fn=>exact FpP.bindM (FpP.guard fun _=>one rfl)
 all_goals exact FpP.bindM (FpP.guard fun _=>one rfl)
theorem b41 {j:Nat} {P:List AV->St->List Nat->Prop} (hN:¬ j < N) (hs:j∈sw) (h:∀ ks,P ks st sw):FpP D N (b5z j) st sw P:=by
 refine FpP.bindM (FpP.getv hN hs ?_)
 cases st.s j<;>simp only<;>first | exact FpP.ret (h _) | exact FpP.fail
theorem d24 {T:TypeId} {sz:Nat} (hx:XO D N st x) (hd:DD D N d):FpP D N (a0w G N d (.box T sz x)) st sw tt:=by
 have hN:¬ N < N:=Nat.lt_irrefl _
 exact FpP.bindM (b6s hx fun st' sw' _ _ hs _=>FpP.bindM (b41 hN hs fun ks=>FpP.bindM (FpP.guard fun _=>FpP.thru (Nat.le_refl _) hd fun _ _=>trivial)))
theorem b3k:∀ (l:List (Nat×Nat×X)) {st:St} {sw:List Nat} {P:Unit->St->List Nat->Prop},(∀ p∈l,XO D N st p.2.2)->(N+1)∈sw->(∀ st' sw',(N+1)∈sw'->P () st' sw')->FpP D N (a52 N l) st sw P
 | [],st,sw,P,_,hs,h=>FpP.ret (h _ _ hs)
 | (off,sz,x)::rest,st,sw,P,hx,hs,h=>by
  have hN:¬ N < N:=Nat.lt_irrefl _
  have hN1:¬ N+1 < N:=by omega
  refine FpP.bindM (b6s (hx (off,sz,x) (by simp)) fun st1 sw1 hb hsw hNs _=>FpP.bindM (b41 hN hNs fun ks=>FpP.bindM (b41 hN1 (hsw _ hs) fun zs=>FpP.bindM (FpP.guard fun _=>FpP.bindM (FpP.putN hN (FpP.bindM (FpP.putN hN1 ?_)))))))
  exact b3k rest (fun p hp=>(hx p (by simp [hp])).le (hb.trans ((BLe.put rfl).trans (BLe.putN hN1)))) (by simp) h
theorem c2g {T:TypeId} {zs:List AV} {parts:List (Nat×Nat×Nat×X)} (hx:∀ p∈parts,XO D N st p.2.2.2) (hd:DD D N d):FpP D N (a0w G N d (.build T zs parts)) st sw tt:=by
 have hN1:¬ N+1 < N:=by omega
 refine FpP.bindM (FpP.putN hN1 (FpP.bindM (b3k _ (fun p hp=> ?_) (by simp) fun st' sw' hs=>FpP.bindM (b41 hN1 hs fun ks=>FpP.bindM (FpP.putN hN1 (FpP.setD hd fun _ _=>trivial))))))
 obtain ⟨r,hr,rfl⟩:=List.mem_map.1 hp
 exact (hx r hr).le (BLe.putN hN1)
theorem c0m {T e:TypeId} {sz len:Nat} {zs:List AV} {parts:List (Nat×X)} (hx:∀ p∈parts,XO D N st p.2) (hd:DD D N d):FpP D N (a0w G N d (.bslice T e sz len zs parts)) st sw tt:=by
 have hN1:¬ N+1 < N:=by omega
 refine FpP.bindM (FpP.putN hN1 (FpP.bindM (b3k _ (fun p hp=> ?_) (by simp) fun st' sw' hs=>FpP.bindM (b41 hN1 hs fun ks=>FpP.thru (by omega) hd fun _ _=>trivial))))
 obtain ⟨r,hr,rfl⟩:=List.mem_map.1 hp
 exact (hx r hr).le (BLe.putN hN1)
theorem c2r {T:TypeId} {s:Nat} (hx:XO D N st x) (hy:XO D N st y) (hd:d=none) (hk:∀ r,giv st N y (rdv st y)=some r->a0k r.2=true\/∀ t,t < N->D t):FpP D N (a0w G N d (.store T s x y)) st sw tt:=by
 have hN:¬ N < N:=Nat.lt_irrefl _
 refine FpP.bindM (FpP.guard fun _=> ?_)
 have hg:FpP D N (a3b y N) st sw (fun _ st' sw'=>(BLe N st st'/\N∈sw')/\∃ r,giv st N y (rdv st y)=some r/\st'.s N= .agg r.2):=by
  intro a st' hr
  obtain ⟨rd,wr,sw',h1,h2,h3,h4⟩:=b6s (P:=fun _ st' sw'=>BLe N st st'/\N∈sw') (sw:=sw) hy (fun st' sw' h1 _ h2 _=>⟨h1,h2⟩) a st' hr
  refine ⟨rd,wr,sw',h1,h2,h3,h4,?_⟩
  rw [a87] at hr
  cases hgv:giv st N y (rdv st y) with
  | none=>rw [hgv] at hr; cases hr
  | some r=>
   rw [hgv] at hr
   simp only [Option.map,Option.some.injEq,Prod.mk.injEq,true_and] at hr
   exact ⟨r,rfl,by rw [<-hr]; simp⟩
 refine FpP.bindM (FpP.mono hg fun a st' sw' ⟨⟨hb,hs⟩,r,hr,hsN⟩=> ?_)
 have hno:=hk r hr
 refine FpP.bindM (FpP.mono (a9k (P:=fun p st2 sw2=>(D p.1/\p.1 < N)/\st2=st'/\sw2=sw') (hx.le hb) fun t q o v e ks hD htN=>⟨⟨hD,htN⟩,rfl,rfl⟩) ?_)
 rintro ⟨t,q,o,v,e,ks⟩ st2 sw2 ⟨⟨hD,htN⟩,rfl,rfl⟩
 refine FpP.bindM (FpP.mono (P:=fun ks2 st3 sw3=>ks2=r.2/\st3=st2/\sw3=sw2) (FpP.bindM (FpP.getv hN hs (by rw [hsN]; exact FpP.ret ⟨rfl,rfl,rfl⟩))) ?_)
 rintro cs st3 sw3 ⟨rfl,rfl,rfl⟩
 refine FpP.bindM (FpP.guard fun _=>FpP.bindM (FpP.putN hN ?_))
 rcases hno with hno | hall
 ·rw [if_pos hno]
  exact FpP.upd hD htN trivial
 ·split
  ·exact FpP.upd hD htN trivial
  ·exact FpP.bindM (FpP.kill hall (FpP.upd hD htN trivial))
theorem c2n (hx:XO D N st x) (hd:DD D N d):FpP D N (a0w G N d (.nilck x)) st sw tt:=by
 refine FpP.bindM (FpP.read hx ?_)
 cases hv:rdv st x<;>simp only<;>first | exact FpP.setD hd fun _ _=>trivial | exact FpP.bindM (a9k hx fun _ _ _ _ _ _ _ _=>FpP.setD hd fun _ _=>trivial)
theorem c2i {T:TypeId} {off f:Nat} (hx:XO D N st x) (hd:DD D N d):FpP D N (a0w G N d (.faddr T off x f)) st sw tt:=by
 refine FpP.bindM (FpP.read hx ?_)
 cases hv:rdv st x<;>simp only<;>first | exact FpP.setD hd fun _ _=>trivial | exact FpP.bindM (a9k hx fun _ _ _ _ _ _ _ _=>FpP.setD hd fun _ _=>trivial)
theorem c2e {T:TypeId} {off f:Nat} (hx:XO D N st x) (hd:DD D N d):FpP D N (a0w G N d (.aaddr T off x f)) st sw tt:=by
 refine FpP.bindM (FpP.read hx ?_)
 cases hv:rdv st x<;>simp only<;>first | exact FpP.setD hd fun _ _=>trivial | exact FpP.bindM (a9k hx fun _ _ _ _ _ _ _ _=>FpP.setD hd fun _ _=>trivial)
theorem c0k {T:TypeId} {sz n:Nat} {i:X} (hx:XO D N st x) (hi:XO D N st i) (hd:DD D N d):FpP D N (a0w G N d (.aaddrv T sz n x i)) st sw tt:=by
 refine FpP.bindM (b42 hi fun j=>FpP.bindM (FpP.guard fun _=>FpP.bindM (FpP.read hx ?_)))
 cases hv:rdv st x<;>simp only<;>first | exact FpP.setD hd fun _ _=>trivial | exact FpP.bindM (a9k hx fun _ _ _ _ _ _ _ _=>FpP.setD hd fun _ _=>trivial)
theorem c0n {T:TypeId} {s:Option Nat} (hx:XO D N st x) (hd:DD D N d):FpP D N (a0w G N d (.load T s x)) st sw tt:=by
 refine FpP.bindM (FpP.read hx ?_)
 simp only
 split
 ·exact FpP.bindM (FpP.opt fun _ _=>FpP.setD hd fun _ _=>trivial)
 ·exact FpP.bindM (FpP.opt fun _ _=>FpP.bindM (FpP.guard fun _=>FpP.setD hd fun _ _=>trivial))
 ·exact FpP.bindM (FpP.guard fun _=>FpP.setD hd fun _ _=>trivial)
 ·exact c5l hx hd
theorem c2k {T:TypeId} {sz:Nat} {i:X} (hx:XO D N st x) (hi:XO D N st i) (hd:DD D N d):FpP D N (a0w G N d (.iaddr T sz x i)) st sw tt:=by
 refine FpP.bindM (b42 hi fun n=>FpP.bindM (FpP.guard fun _=>FpP.bindM (FpP.read hx ?_)))
 have rest:FpP D N (do
   let (t,q,lo,m)<-a5x x
   a0f (decide (n < (m:Int)))
   let v<-a9g t
   let k<-a2r (a0c v.1 q)
   match k with
   | .own sz' n0 _=>do
    a0f (sz'==sz&&decide (lo+m<=n0))
    setD d (.ref t q ((lo+n.toNat)*sz) v.2)
   | _=> .fail) st sw tt:=by
  refine FpP.bindM (c0l hx fun t q lo m hD hN=>FpP.bindM (FpP.guard fun _=>FpP.bindM (FpP.get hD hN (FpP.bindM (FpP.opt fun k _=> ?_)))))
  cases k<;>simp only<;>first | exact FpP.fail | exact FpP.bindM (FpP.guard fun _=>FpP.setD hd fun _ _=>trivial)
 cases hv:rdv st x<;>simp only<;>first | exact FpP.bindM (FpP.guard fun _=>FpP.setD hd fun _ _=>trivial) | exact rest
theorem c2l {T:TypeId} {b:Bool} (hx:XO D N st x) (hd:DD D N d):FpP D N (a0w G N d (.len T b x)) st sw tt:=by
 cases b with
 | true=>
  refine FpP.bindM (a72 hx fun v=> ?_)
  cases v<;>simp only<;>first | exact FpP.fail | exact FpP.setD hd fun _ _=>trivial
 | false=>
  refine FpP.bindM (FpP.read hx ?_)
  have rest:FpP D N (do
   let (t,q,lo,n)<-a5x x
   let k<-c06 t q
   match k with
   | .own _ n0 _=>do
    a0f (decide (lo+n<=n0))
    setD d (.lit (.int .i64 n))
   | _=> .fail) st sw tt:=by
   refine FpP.bindM (c0l hx fun t q lo m hD hN=>FpP.bindM (c2o hD hN fun k=> ?_))
   cases k<;>simp only<;>first | exact FpP.fail | exact FpP.bindM (FpP.guard fun _=>FpP.setD hd fun _ _=>trivial)
  cases hv:rdv st x<;>simp only<;>first | exact FpP.setD hd fun _ _=>trivial | exact rest
theorem d23 {b:BinOp} {T kd:Nat} {yT:TypeId} (hx:XO D N st x) (hy:XO D N st y) (hd:DD D N d):FpP D N (a0w G N d (.bin b T kd x y yT)) st sw tt:=
 FpP.bindM (FpP.read hx (FpP.bindM (FpP.read hy (FpP.bindM (FpP.opt fun _ _=>FpP.setD hd fun _ _=>trivial)))))
theorem e4k {u:UnOp} {T:TypeId} (hx:XO D N st x) (hd:DD D N d):FpP D N (a0w G N d (.un u T x)) st sw tt:=
 FpP.bindM (a72 hx fun _=>FpP.bindM (FpP.opt fun _ _=>FpP.setD hd fun _ _=>trivial))
theorem c5o {c:X} (hc:XO D N st c) (hx:XO D N st x) (hy:XO D N st y) (hd:DD D N d):FpP D N (a0w G N d (.pick c x y)) st sw tt:=
 FpP.bindM (a72 hc fun _=>FpP.bindM (FpP.read hx (FpP.bindM (FpP.read hy (FpP.bindM (FpP.opt fun _ _=>FpP.setD hd fun _ _=>trivial))))))
theorem c2f {T:TypeId} {zs:List AV} (hd:DD D N d):FpP D N (a0w G N d (.alloc T zs)) st sw tt:=FpP.thru (Nat.le_refl _) hd fun _ _=>trivial
theorem c2h {s t:TypeId} {k:IntKind} (hx:XO D N st x) (hd:DD D N d):FpP D N (a0w G N d (.conv s t (.int k) x)) st sw tt:=by
 refine FpP.bindM (a72 hx fun v=> ?_)
 cases v<;>simp only<;>first | exact FpP.fail | exact FpP.setD hd fun _ _=>trivial
theorem d28 {T:TypeId} (hx:XO D N st x) (hd:DD D N d):FpP D N (a0w G N d (.mki T x)) st sw tt:=by
 refine FpP.bindM (FpP.read hx ?_)
 cases hv:rdv st x<;>simp only<;>first | exact FpP.fail | exact FpP.setD hd fun _ _=>trivial | exact FpP.bindM (FpP.tmp fun t ht=>FpP.bindM (FpP.upd (hx.t t ht).1 (hx.t t ht).2 (FpP.setD hd fun _ _=>trivial)))
theorem d29 {T e:TypeId} {sz by_:Nat} {zs:List AV} (hx:XO D N st x) (hy:XO D N st y) (hd:DD D N d):FpP D N (a0w G N d (.mks T e sz by_ zs x y)) st sw tt:=
 FpP.bindM (b42 hx fun _=>FpP.bindM (b42 hy fun _=>FpP.bindM (FpP.guard fun _=>FpP.thru (Nat.le_refl _) hd fun _ _=>trivial)))
theorem d26 {i:Nat} (hx:XO D N st x) (hd:DD D N d):FpP D N (a0w G N d (.ext x i)) st sw tt:=by
 refine FpP.bindM (FpP.read hx ?_)
 cases hv:rdv st x<;>simp only<;>try exact FpP.fail
 refine FpP.bindM (FpP.opt fun k _=> ?_)
 split
 ·exact FpP.setD hd fun _ _=>trivial
 ·exact FpP.bindM (FpP.tmp fun t ht=>FpP.bindM (FpP.put (hx.t t ht).1 (hx.t t ht).2 (FpP.thru (Nat.le_refl _) hd fun _ _=>trivial)))
theorem d27 {T off f:Nat} (hx:XO D N st x) (hd:DD D N d):FpP D N (a0w G N d (.fld T off x f)) st sw tt:=by
 refine FpP.bindM (FpP.read hx ?_)
 cases hv:rdv st x<;>simp only<;>try exact FpP.fail
 exact FpP.bindM (FpP.opt fun k _=>FpP.bindM (FpP.guard fun _=>FpP.setD hd fun _ _=>trivial))
theorem c34 {P:Int->St->List Nat->Prop} (hx:XO D N st x) (h:∀ v,P v st sw):FpP D N (c5s x) st sw P:=by
 refine FpP.bindM (a72 hx fun v=> ?_)
 split
 ·exact FpP.ret (h _)
 ·exact FpP.fail
theorem c0o {P:(Nat×List Nat×AV×List Int×List AV)->St->List Nat->Prop} (hx:XO D N st x) (h:∀ t q v keys vals,D t->t < N->P (t,q,v,keys,vals) st sw):FpP D N (c52 x) st sw P:=by
 refine FpP.bindM (FpP.read hx ?_)
 cases hv:rdv st x<;>simp only<;>try exact FpP.fail
 rename_i t q lo n e
 have hb:=hx.b t (by rw [hv]; rfl)
 refine FpP.bindM (FpP.get hb.1 hb.2 (FpP.bindM (FpP.guard fun _=>FpP.bindM (FpP.opt fun k _=> ?_))))
 cases k<;>simp only<;>first | exact FpP.fail | exact FpP.ret (h _ _ _ _ _ hb.1 hb.2)
theorem c2m {T:TypeId} (hd:DD D N d):FpP D N (a0w G N d (.mkmap T)) st sw tt:=FpP.thru (Nat.le_refl _) hd fun _ _=>trivial
theorem c5m {T e:TypeId} {zs:List AV} (hx:XO D N st x) (hy:XO D N st y) (hd:DD D N d):FpP D N (a0w G N d (.mget T e zs x y)) st sw tt:=by
 refine FpP.bindM (c0o hx fun t q v keys vals _ _=>FpP.bindM (c34 hy fun n=> ?_))
 split
 ·exact FpP.bindM (FpP.guard fun _=>FpP.setD hd fun _ _=>trivial)
 ·exact FpP.bindM (FpP.guard fun _=>FpP.setD hd fun _ _=>trivial)
theorem c5n {T e:TypeId} {z:X} (hx:XO D N st x) (hy:XO D N st y) (hz:XO D N st z):FpP D N (a0w G N d (.mset T e x y z)) st sw tt:=
 FpP.bindM (FpP.guard fun _=>FpP.bindM (c0o hx fun t q v keys vals hD hN=>FpP.bindM (c34 hy fun n=>FpP.bindM (FpP.read hz (FpP.bindM (FpP.guard fun _=>FpP.upd hD hN trivial))))))
theorem d3e {xT T:TypeId} {zs:List AV} (hx:XO D N st x) (hd:DD D N d):FpP D N (a0w G N d (.tas x xT T zs)) st sw tt:=by
 refine FpP.bindM (FpP.read hx ?_)
 simp only
 split
 ·exact FpP.setD hd fun _ _=>trivial
 ·exact FpP.setD hd fun _ _=>trivial
 ·exact FpP.bindM (FpP.guard fun _=>FpP.setD hd fun _ _=>trivial)
 ·exact FpP.fail
theorem e4j {mx:Bool} {ts:List TypeId} (hx:XO D N st x) (hy:XO D N st y) (hd:DD D N d):FpP D N (a0w G N d (.mm mx ts [x,y])) st sw tt:=by
 refine FpP.bindM (a72 hx fun u=>FpP.bindM (a72 hy fun v=> ?_))
 split
 ·exact FpP.bindM (FpP.guard fun _=>FpP.setD hd fun _ _=>trivial)
 ·exact FpP.fail
theorem d25 {b:BinOp} {T tp te:TypeId} {yT:TypeId} (hx:XO D N st x) (hy:XO D N st y) (hd:DD D N d):FpP D N (a0w G N d (.eqs b T tp te x y yT)) st sw tt:=by
 refine FpP.bindM (a72 hx fun u=>FpP.bindM (a72 hy fun v=> ?_))
 split
 ·refine FpP.bindM (FpP.guard fun _=> ?_)
  split<;>first | exact FpP.setD hd fun _ _=>trivial | exact FpP.fail
 ·exact FpP.fail
end
open Classical
section
variable {D:Nat->Prop} {N:Nat} {st:St} {sw:List Nat} {d:Option Nat} {x y:X} {G:GG}
theorem c2q {T:TypeId} {sz:Nat} {lo hi:Option X} (hx:XO D N st x) (hlo:∀ y,lo=some y->XO D N st y) (hhi:∀ y,hi=some y->XO D N st y) (hd:DD D N d):FpP D N (a0w G N d (.slice T sz x lo hi none)) st sw tt:=by
 refine FpP.bindM (FpP.read hx ?_)
 have rest:FpP D N (do
   a0f (decide (0 < sz))
   let (t,q,lo0,n)<-a5x x
   let v<-a9g t
   let k<-a2r (a0c v.1 q)
   match k with
   | .own sz' n0 _=>do
    let l<-a2i lo 0
    let h<-a2i hi n
    a0f (decide (0<=l)&&decide (l<=h)&&decide (h<=(n:Int))&&decide (lo0+n<=n0)&&sz'==sz&&(lo0==0||l==0||decide (l < h)))
    match (none:Option X) with
    | none=>setD d (.bor t q (lo0+l.toNat) (h - l).toNat v.2)
    | some m=>do
     let m<-b76 m
     a0f (l==0&&h==0&&m==0&&hi.isSome)
     a26 N d (.own sz 0 [])
   | _=> .fail) st sw tt:=by
  refine FpP.bindM (FpP.guard fun _=>FpP.bindM (c0l hx fun t q lo0 n hD hN=>FpP.bindM (FpP.get hD hN (FpP.bindM (FpP.opt fun k _=> ?_)))))
  cases k<;>simp only<;>try exact FpP.fail
  exact FpP.bindM (a5y hlo fun _=>FpP.bindM (a5y hhi fun _=>FpP.bindM (FpP.guard fun _=>FpP.setD hd fun _ _=>trivial)))
 cases hv:rdv st x
 case lit v=>
  cases v<;>simp only<;>try exact rest
  exact FpP.bindM (a5y hlo fun _=>FpP.bindM (a5y hhi fun _=>FpP.bindM (FpP.guard fun _=>FpP.setD hd fun _ _=>trivial)))
 case sl=>exact FpP.bindM (FpP.guard fun _=>FpP.bindM (a5y hlo fun _=>FpP.bindM (a5y hhi fun _=>FpP.bindM (FpP.guard fun _=>FpP.setD hd fun _ _=>trivial))))
 all_goals exact rest
theorem c5p {P:Unit->St->List Nat->Prop} (hx:XO D N st x) (h:∀ st' sw',BLe N st st'->N∈sw'->P () st' sw'):FpP D N (b7q x N) st sw P:=by
 have hN:¬ N < N:=Nat.lt_irrefl _
 refine FpP.bindM (FpP.read hx ?_)
 cases hv:rdv st x<;>simp only<;>try exact FpP.fail
 ·cases x with
  | t t=>exact FpP.bindM (FpP.put (hx.t t rfl).1 (hx.t t rfl).2 (FpP.putN hN (h _ _ ((BLe.put rfl).trans (BLe.putN hN)) (by simp))))
  | _=>exact FpP.putN hN (h _ _ (BLe.putN hN) (by simp))
 ·rename_i t q lo n e
  have hb:=hx.b t (by rw [hv]; rfl)
  refine FpP.bindM (FpP.get hb.1 hb.2 (FpP.bindM (FpP.guard fun _=>FpP.bindM (FpP.opt fun k hk=> ?_))))
  cases k<;>simp only<;>try exact FpP.fail
  exact FpP.bindM (FpP.guard fun _=>FpP.bindM (FpP.upd hb.1 hb.2 (FpP.putN hN (h _ _ ((BLe.set (a33 hk rfl)).trans (BLe.putN hN)) (by simp)))))
theorem d3d {P:Unit->St->List Nat->Prop} (hx:XO D N st x) (h:∀ st' sw',(∀ t∈sw,t∈sw')->N+1∈sw'->P () st' sw'):FpP D N (d0a x N) st sw P:=by
 have hN:¬ N+1 < N:=by omega
 refine FpP.bindM (FpP.read hx ?_)
 cases hv:rdv st x<;>simp only<;>try exact FpP.fail
 ·exact FpP.putN hN (h _ _ (fun t ht=>by simp [ht]) (by simp))
 ·cases x with
  | t t=>exact FpP.bindM (FpP.put (hx.t t rfl).1 (hx.t t rfl).2 (FpP.putN hN (h _ _ (fun t ht=>by simp [ht]) (by simp))))
  | _=>exact FpP.putN hN (h _ _ (fun t ht=>by simp [ht]) (by simp))
 ·rename_i t q lo n e
  have hb:=hx.b t (by rw [hv]; rfl)
  refine FpP.bindM (FpP.get hb.1 hb.2 (FpP.bindM (FpP.guard fun _=>FpP.bindM (FpP.opt fun k hk=> ?_))))
  cases k<;>simp only<;>try exact FpP.fail
  exact FpP.bindM (FpP.guard fun _=>FpP.bindM (FpP.upd hb.1 hb.2 (FpP.putN hN (h _ _ (fun t ht=>by simp [ht]) (by simp)))))
theorem d22 {T e:TypeId} {sz by_:Nat} (hx:XO D N st x) (hy:XO D N st y) (hd:DD D N d):FpP D N (a0w G N d (.app T e sz by_ x y)) st sw tt:=by
 have hN:¬ N < N:=Nat.lt_irrefl _
 have hN1:¬ N+1 < N:=by omega
 refine FpP.bindM (c5p hx fun st1 sw1 hb hs=>FpP.bindM (d3d (hy.le hb) fun st2 sw2 hsw hs1=>FpP.bindM (FpP.getv hN (hsw _ hs) (FpP.bindM (FpP.getv hN1 hs1 ?_)))))
 split
 ·exact FpP.bindM (FpP.guard fun _=>FpP.bindM (FpP.putN hN1 (FpP.thru (Nat.le_refl _) hd fun _ _=>trivial)))
 ·exact FpP.bindM (FpP.guard fun _=>FpP.bindM (FpP.putN hN1 (FpP.thru (Nat.le_refl _) hd fun _ _=>trivial)))
 ·exact FpP.fail
theorem c2j {j:Nat} (hj:N<=j) {P:Unit->St->List Nat->Prop} (hx:XO D N st x) (h:∀ st' sw',BLe N st st'->(∀ t∈sw,t∈sw')->j∈sw'->P () st' sw'):FpP D N (b6w N x j) st sw P:=by
 have hN:¬ j < N:=Nat.not_lt.2 hj
 have one:∀ {v:AV},FpP D N (a2a j v) st sw P:=FpP.putN hN (h _ _ (BLe.putN hN) (fun t ht=>by simp [ht]) (by simp))
 have tail:∀ v:AV,FpP D N (a2y x j v) st sw P:=by
  intro v
  unfold a2y
  cases x with
  | t t=>
   simp only
   split
   ·exact one
   ·exact FpP.bindM (FpP.put (hx.t t rfl).1 (hx.t t rfl).2 (FpP.putN hN (h _ _ ((BLe.put rfl).trans (BLe.putN hN)) (fun t ht=>by simp [ht]) (by simp))))
  | _=>exact one
 refine FpP.bindM (FpP.read hx ?_)
 cases hv:rdv st x<;>simp only
 case dead=>exact FpP.fail
 case bor t q lo n e=>
  have hb:=hx.b t (by rw [hv]; rfl)
  refine FpP.bindM (FpP.get hb.1 hb.2 (FpP.bindM (FpP.guard fun _=>FpP.bindM (FpP.opt fun k hk=> ?_))))
  cases k<;>simp only<;>try exact FpP.fail
  exact FpP.bindM (FpP.guard fun _=>FpP.bindM (FpP.upd hb.1 hb.2 (FpP.putN hN (h _ _ ((BLe.set (a33 hk rfl)).trans (BLe.putN hN)) (fun t ht=>by simp [ht]) (by simp)))))
 all_goals exact FpP.bindM (FpP.guard fun _=>tail _)
theorem c15 {v:AV} (h:a0j v=false):a1z (frz v)=none:=by
 cases v<;>first | rfl | simp [a0j] at h
theorem b3l {t0:Nat} (hD:D t0/\t0 < N):∀ (ks:List AV) {st:St} {P:List AV->St->List Nat->Prop},(∀ l st',BLe N st st'->P l st' sw)->FpP D N (a70 N t0 ks) st sw P
 | [],st,P,h=>FpP.ret (h _ _ (BLe.refl _))
 | k::ks,st,P,h=>by
  have plain:FpP D N (do a0f (a3o k); let l<-a70 N t0 ks; pure (k::l):Ev (List AV)) st sw P:=
   FpP.bindM (FpP.guard fun _=>FpP.bindM (b3l hD ks fun l st' hb=>FpP.ret (h _ _ hb)))
  cases k with
  | bor t q lo n e=>
   rw [a70]
   refine FpP.bindM (FpP.guard fun _=>FpP.bindM (FpP.get hD.1 hD.2 (FpP.bindM (FpP.guard fun _=>FpP.bindM (FpP.opt fun k hk=> ?_)))))
   cases k<;>simp only<;>try exact FpP.fail
   exact FpP.bindM (FpP.guard fun _=>FpP.bindM (FpP.upd hD.1 hD.2 (FpP.bindM (b3l hD ks fun l st' hb=>FpP.ret (h _ _ ((BLe.set (a33 hk rfl)).trans hb))))))
  | _=>rw [a70]<;>first | exact plain | (intros; simp_all)
theorem c2p {j:Nat} (hj:N<=j) {P:Unit->St->List Nat->Prop} (hx:XO D N st x) (h:∀ st' sw',BLe N st st'->(∀ t∈sw,t∈sw')->j∈sw'->P () st' sw'):FpP D N (b3x N x j) st sw P:=by
 have hN:¬ j < N:=Nat.not_lt.2 hj
 have one:∀ {v:AV},FpP D N (a2a j v) st sw P:=FpP.putN hN (h _ _ (BLe.putN hN) (fun t ht=>by simp [ht]) (by simp))
 have tail:∀ v:AV,FpP D N (a2l x j v) st sw P:=by
  intro v
  unfold a2l
  cases x with
  | t t=>
   simp only
   split
   ·exact one
   ·rename_i hno
    exact FpP.bindM (FpP.upd (hx.t t rfl).1 (hx.t t rfl).2 (FpP.putN hN (h _ _ ((BLe.set (c15 (by simpa using hno))).trans (BLe.putN hN)) (fun t ht=>by simp [ht]) (by simp))))
  | _=>exact one
 refine FpP.bindM (FpP.read hx ?_)
 cases hv:rdv st x<;>simp only
 case dead=>exact FpP.fail
 case bor t q lo n e=>
  have hb:=hx.b t (by rw [hv]; rfl)
  refine FpP.bindM (FpP.get hb.1 hb.2 (FpP.bindM (FpP.guard fun _=>FpP.bindM (FpP.opt fun k hk=> ?_))))
  cases k<;>simp only<;>try exact FpP.fail
  exact FpP.bindM (FpP.guard fun _=>FpP.bindM (FpP.upd hb.1 hb.2 (FpP.putN hN (h _ _ ((BLe.set (a33 hk rfl)).trans (BLe.putN hN)) (fun t ht=>by simp [ht]) (by simp)))))
 case loan ks=>
  exact FpP.bindM (FpP.opt fun t ht=>FpP.bindM (b3l (hx.b t (by rw [hv]; exact ht)) ks fun l st' hb=>FpP.putN hN (h _ _ (hb.trans (BLe.putN hN)) (fun t ht=>by simp [ht]) (by simp))))
 all_goals exact FpP.bindM (FpP.guard fun _=>tail _)
theorem b74:∀ (xs:List (Bool×X)) (j:Nat) {st:St} {sw:List Nat} {P:Unit->St->List Nat->Prop},N<=j->(∀ p∈xs,XO D N st p.2)->(∀ st' sw',BLe N st st'->(∀ t∈sw,t∈sw')->(∀ i x,xs[i]? =some (true,x)->j+i∈sw')->P () st' sw')->FpP D N (a4h N j xs) st sw P
 | [],j,st,sw,P,hj,hx,h=>FpP.ret (h _ _ (BLe.refl _) (fun _ h=>h) (fun i x hi=>by simp at hi))
 | (b,x)::xs,j,st,sw,P,hj,hx,h=>by
  refine FpP.bindM ?_
  have go:∀ st1 sw1,BLe N st st1->(∀ t∈sw,t∈sw1)->(b=true->j∈sw1)->FpP D N (a4h N (j+1) xs) st1 sw1 P:=fun st1 sw1 hb hs hj1=>
   b74 xs (j+1) (by omega) (fun p hp=>(hx p (by simp [hp])).le hb) fun st2 sw2 hb2 hs2 hi=>h _ _ (hb.trans hb2) (fun t ht=>hs2 t (hs t ht)) fun i y hy=>by
    cases i with
    | zero=>
     simp only [List.getElem?_cons_zero,Option.some.injEq,Prod.mk.injEq] at hy
     exact hs2 _ (hj1 hy.1)
    | succ i=>rw [show j+(i+1)=j+1+i by omega]; exact hi i y (by simpa using hy)
  cases b with
  | true=>exact c2j hj (hx (true,x) (by simp)) fun st1 sw1 hb hs hj1=>go st1 sw1 hb hs fun _=>hj1
  | false=>exact FpP.ret (go st sw (BLe.refl _) (fun _ h=>h) fun hc=>by cases hc)
theorem b43:∀ (xs:List (Bool×X)) (j:Nat) {st:St} {sw:List Nat} {P:Unit->St->List Nat->Prop},N<=j->(∀ p∈xs,XO D N st p.2)->(∀ st' sw',(∀ t∈sw,t∈sw')->(∀ i x,xs[i]? =some (false,x)->j+i∈sw')->P () st' sw')->FpP D N (a2s N j xs) st sw P
 | [],j,st,sw,P,hj,hx,h=>FpP.ret (h _ _ (fun _ h=>h) (fun i x hi=>by simp at hi))
 | (b,x)::xs,j,st,sw,P,hj,hx,h=>by
  refine FpP.bindM ?_
  have go:∀ st1 sw1,BLe N st st1->(∀ t∈sw,t∈sw1)->(b=false->j∈sw1)->FpP D N (a2s N (j+1) xs) st1 sw1 P:=fun st1 sw1 hb hs hj1=>
   b43 xs (j+1) (by omega) (fun p hp=>(hx p (by simp [hp])).le hb) fun st2 sw2 hs2 hi=>h _ _ (fun t ht=>hs2 t (hs t ht)) fun i y hy=>by
    cases i with
    | zero=>
     simp only [List.getElem?_cons_zero,Option.some.injEq,Prod.mk.injEq] at hy
     exact hs2 _ (hj1 hy.1)
    | succ i=>rw [show j+(i+1)=j+1+i by omega]; exact hi i y (by simpa using hy)
  cases b with
  | false=>exact c2p hj (hx (false,x) (by simp)) fun st1 sw1 hb hs hj1=>go st1 sw1 hb hs fun _=>hj1
  | true=>exact FpP.ret (go st sw (BLe.refl _) (fun _ h=>h) fun hc=>by cases hc)
end
def a9r:IOp->Option (List X)
 | .mv x=>some [x]
 | .asg x=>some [x]
 | .mva x=>some [x]
 | .mvf x=>some [x]
 | .pick c x y=>some [c,x,y]
 | .alloc _ _=>some []
 | .box _ _ x=>some [x]
 | .build _ _ parts=>some (parts.map fun p=>p.2.2.2)
 | .bslice _ _ _ _ _ parts=>some (parts.map fun p=>p.2)
 | .load _ _ x=>some [x]
 | .store _ _ x y=>some [x,y]
 | .nilck x=>some [x]
 | .bin _ _ _ x y _=>some [x,y]
 | .un _ _ x=>some [x]
 | .eqs _ _ _ _ x y _=>some [x,y]
 | .conv _ _ (.int _) x=>some [x]
 | .mki _ x=>some [x]
 | .mks _ _ _ _ _ x y=>some [x,y]
 | .slice _ _ x lo hi none=>some (x::(lo.toList++hi.toList))
 | .faddr _ _ x _=>some [x]
 | .aaddr _ _ x _=>some [x]
 | .iaddr _ _ x i=>some [x,i]
 | .aaddrv _ _ _ x i=>some [x,i]
 | .ext x _=>some [x]
 | .fld _ _ x _=>some [x]
 | .tas x _ _ _=>some [x]
 | .len _ _ x=>some [x]
 | .app _ _ _ _ x y=>some [x,y]
 | .mm _ _ [x,y]=>some [x,y]
 | .mkmap _=>some []
 | .mget _ _ _ x k=>some [x,k]
 | .mset _ _ x k v=>some [x,k,v]
 | _=>none
def d0b (N:Nat) (st:St):IOp->Bool
 | .store _ _ _ y=>match giv st N y (rdv st y) with
  | some r=>a0k r.2
  | none=>true
 | _=>true
def c1m (N:Nat) (st:St):IOp->Prop
 | .store _ _ _ y=>match giv st N y (rdv st y) with
  | some r=>a0k r.2=true
  | none=>True
 | _=>True
theorem c6n {N:Nat} {st:St} {i:IOp} (h:d0b N st i=true):c1m N st i:=by
 cases i<;>try trivial
 simp only [d0b,c1m] at h ⊢
 split<;>rename_i hh
 ·rw [hh] at h; exact h
 ·trivial
theorem d3b {D:Nat->Prop} {N:Nat} {st:St} {sw:List Nat} {d:Option Nat} {G:GG} {i:IOp} {xs:List X} (ho:a9r i=some xs) (hx:∀ x∈xs,XO D N st x) (hd:DD D N d) (hs:c1m N st i\/∀ t,t < N->D t):FpP D N (a0w G N d i) st sw tt:=by
 cases i<;>simp only [a9r,Option.some.injEq,reduceCtorEq] at ho
 case mv=>subst ho; exact d3a (hx _ (by simp)) hd
 case asg=>subst ho; exact c33 (hx _ (by simp)) hd
 case mva=>subst ho; exact c33 (hx _ (by simp)) hd
 case mvf=>subst ho; exact d3a (hx _ (by simp)) hd
 case pick=>subst ho; exact c5o (hx _ (by simp)) (hx _ (by simp)) (hx _ (by simp)) hd
 case alloc=>exact c2f hd
 case box=>subst ho; exact d24 (hx _ (by simp)) hd
 case build=>subst ho; exact c2g (fun p hp=>hx _ (List.mem_map.2 ⟨p,hp,rfl⟩)) hd
 case bslice=>subst ho; exact c0m (fun p hp=>hx _ (List.mem_map.2 ⟨p,hp,rfl⟩)) hd
 case load=>subst ho; exact c0n (hx _ (by simp)) hd
 case store T s x y=>
  subst ho
  by_cases hdn:d=none
  ·refine c2r (hx _ (by simp)) (hx _ (by simp)) hdn fun r hr=> ?_
   rcases hs with hs | hs
   ·simp only [c1m,hr] at hs
    exact .inl hs
   ·exact .inr hs
  ·intro a st' hr
   exfalso
   cases d with
   | none=>exact hdn rfl
   | some d=>cases hr
 case nilck=>subst ho; exact c2n (hx _ (by simp)) hd
 case bin=>subst ho; exact d23 (hx _ (by simp)) (hx _ (by simp)) hd
 case un=>subst ho; exact e4k (hx _ (by simp)) hd
 case eqs=>subst ho; exact d25 (hx _ (by simp)) (hx _ (by simp)) hd
 case conv s t k x=>
  cases k<;>simp only [a9r,Option.some.injEq,reduceCtorEq] at ho
  subst ho; exact c2h (hx _ (by simp)) hd
 case mki=>subst ho; exact d28 (hx _ (by simp)) hd
 case mks=>subst ho; exact d29 (hx _ (by simp)) (hx _ (by simp)) hd
 case slice T sz x lo hi mx=>
  cases mx<;>simp only [a9r,Option.some.injEq,reduceCtorEq] at ho
  subst ho
  exact c2q (hx _ (by simp)) (fun y hy=>hx _ (by simp [hy])) (fun y hy=>hx _ (by simp [hy])) hd
 case faddr=>subst ho; exact c2i (hx _ (by simp)) hd
 case aaddr=>subst ho; exact c2e (hx _ (by simp)) hd
 case aaddrv=>subst ho; exact c0k (hx _ (by simp)) (hx _ (by simp)) hd
 case iaddr=>subst ho; exact c2k (hx _ (by simp)) (hx _ (by simp)) hd
 case ext=>subst ho; exact d26 (hx _ (by simp)) hd
 case fld=>subst ho; exact d27 (hx _ (by simp)) hd
 case tas=>subst ho; exact d3e (hx _ (by simp)) hd
 case len=>subst ho; exact c2l (hx _ (by simp)) hd
 case mkmap=>exact c2m hd
 case mget=>subst ho; exact c5m (hx _ (by simp)) (hx _ (by simp)) hd
 case mset=>subst ho; exact c5n (hx _ (by simp)) (hx _ (by simp)) (hx _ (by simp))
 case app=>subst ho; exact d22 (hx _ (by simp)) (hx _ (by simp)) hd
 case mm mx ts xs2=>
  match xs2,ho with
  | [x,y],ho=>
   simp only [Option.some.injEq] at ho
   subst ho
   exact e4j (hx _ (by simp)) (hx _ (by simp)) hd
open Classical
def b50 (st:St):X->List Nat
 | .t n=>n::(a1z (st.s n)).toList
 | _=>[]
def a0s (st:St):List X->List Nat
 | []=>[]
 | x::xs=>b50 st x++a0s st xs
def slX:X->List Nat
 | .t n=>[n]
 | _=>[]
def slL:List X->List Nat
 | []=>[]
 | x::xs=>slX x++slL xs
theorem b3f {st:St} {x:X}:∀ {xs:List X},x∈xs->∀ t∈b50 st x,t∈a0s st xs
 | y::ys,h,t,ht=>by
  rcases List.mem_cons.1 h with rfl | h
  ·simp [a0s,ht]
  ·simp [a0s,b3f h t ht]
theorem c6u {DL:List Nat} {N:Nat} {st:St} {xs:List X} (h:∀ t∈a0s st xs,t∈DL) (hN:∀ t∈DL,t < N):∀ x∈xs,XO (· ∈DL) N st x:=fun x hx=>{
 t:=fun t ht=>by
  subst ht
  have:=h t (b3f hx t (by simp [b50]))
  exact ⟨this,hN t this⟩
 b:=fun u hu=>by
  cases x with
  | t t=>
   have:=h u (b3f hx u (by simp [b50,show a1z (st.s t)=some u from hu]))
   exact ⟨this,hN u this⟩
  | _=>cases hu }
def fr (N:Nat) (W:List Nat) (st st':St):Prop:=∀ t,t < N->t ∉ W->agr st st' t
section
variable {V:List (Nat×Nat)} {P:Program} {G:GG} {N:Nat} {st st':St} {step:(St->Prop)->St->Prop}
theorem Loc.widen {rd wr DL W:List Nat} (h:Loc P G N V step st st' rd wr) (h1:∀ t∈rd,t∈DL) (h2:∀ t∈wr,t∈DL) (h3:∀ t∈DL,t < N) (h4:∀ t∈W,t < N) (hf:fr N W st st'):Loc P G N V step st st' DL W where
 lt t ht:=ht.elim (h3 t) (h4 t)
 frame t ht hn:=hf t ht hn
 loc st2 hV hst K hK:=h.loc st2 hV (fun t ht=>hst t (.inl (ht.elim (h1 t) (h2 t)))) K fun st2' g1 g2=>hK st2' (fun t ht=>by
   by_cases hw:t∈wr
   ·exact g1 t hw
   ·exact ((h.frame t (h4 t ht) hw).symm.trans (hst t (.inr ht))).trans (g2 t (h4 t ht) hw)) (fun t ht hn=>by
   by_cases hw:t∈wr
   ·exact ((hst t (.inl (h2 t hw))).symm.trans (hf t ht hn)).trans (g1 t hw)
   ·exact g2 t ht hw)
theorem d4b {d:Option Nat} {i:IOp} {xs:List X} {W:List Nat} (ho:a9r i=some xs) (he:evS G N d i st=some st') (hN:∀ t∈d.toList++a0s st xs,t < N) (hW:∀ t∈W,t < N) (hs:c1m N st i) (hf:fr N W st st') :
  Loc P G N V (b1x P G N d (.op i)) st st' (d.toList++a0s st xs) W:=by
 have hx:=c6u (DL:=d.toList++a0s st xs) (st:=st) (xs:=xs) (fun t ht=>by simp [ht]) hN
 have hd:DD (· ∈d.toList++a0s st xs) N d:=fun t ht=>by
  subst ht
  exact ⟨by simp,hN t (by simp)⟩
 unfold evS at he
 cases hr:(a0w G N d i).run st with
 | none=>rw [hr] at he; cases he
 | some r=>
  obtain ⟨u,st1⟩:=r
  rw [hr] at he
  simp only [Option.map,Option.some.injEq] at he
  subst he
  obtain ⟨rd,wr,sw',g1,g2,g3,_⟩:=d3b (sw:=[]) ho hx hd (.inl hs) u st1 hr
  obtain ⟨st2,rd2,wr2,⟨rfl,rfl,rfl⟩,hL⟩:=b26 (V:=V) (P:=P) (G:=G) (N:=N) (d:=d) (act:= .op i) (st:=st) (K:=fun st2 rd2 wr2=>st2=st1/\rd2=rd/\wr2=wr) (by simp only [d0p,g1,and_self])
  exact hL.widen g2 g3 hN hW hf
theorem c51 {d:Nat} {p:Nat×Nat} (hI:a6t V st) (hp:p∈V) (hd:d < N) (he:evS G N (some d) (.mv (.t p.1)) st=some st'):Loc P G N V (b1x P G N (some d) (.op (.mv (.t p.1)))) st st' (some d).toList [d]/\True:=by
 have run:∀ s:St,a6t V s->(a0w G N (some d) (.mv (.t p.1))).run s=some ((),s.put d (.ref p.1 [] 0 p.2)):=by
  intro s hs
  obtain ⟨h1,h2⟩:=hs p hp
  cases hv:s.s p.1<;>simp only [hv,b44,reduceCtorEq] at h1
  simp only [a0w,mvE,Ev.run_bind,a0n,rdv,rde,hv,a99,Ev.run,setD,a2a,Option.bind,h2]
 have hst:st'=st.put d (.ref p.1 [] 0 p.2):=by
  simp only [evS,run st hI,Option.map,Option.some.injEq] at he
  exact he.symm
 subst hst
 refine ⟨⟨fun t ht=> ?_,fun t ht hn=> ?_,fun st2 hV2 hag K hK=> ?_⟩,trivial⟩
 ·rcases ht with ht | ht<;>simp at ht<;>subst ht<;>exact hd
 ·exact agr.putn _ (by simpa using hn)
 ·simp only [b1x,run st2 hV2]
  refine hK _ (fun t ht=>(hag t (.inr ht)).put _) (fun t ht hn=>agr.putn _ (by simpa using hn))
theorem c22 {d:Option Nat} {i:IOp} {xs:List X} (ho:a9r i=some xs) (he:evS G N d i st=some st') (hN:∀ t∈d.toList++a0s st xs,t < N) :
  Loc P G N V (b1x P G N d (.op i)) st st' (List.range N) (List.range N):=by
 have hx:∀ x∈xs,XO (· < N) N st x:=fun x hx=>by
  have:=c6u (DL:=d.toList++a0s st xs) (st:=st) (xs:=xs) (fun t ht=>by simp [ht]) hN x hx
  exact { t:=fun t ht=>⟨(this.t t ht).2,(this.t t ht).2⟩,b:=fun u hu=>⟨(this.b u hu).2,(this.b u hu).2⟩ }
 have hd:DD (· < N) N d:=fun t ht=>by
  subst ht
  exact ⟨hN t (by simp),hN t (by simp)⟩
 unfold evS at he
 cases hr:(a0w G N d i).run st with
 | none=>rw [hr] at he; cases he
 | some r=>
  obtain ⟨u,st1⟩:=r
  rw [hr] at he
  simp only [Option.map,Option.some.injEq] at he
  subst he
  obtain ⟨rd,wr,sw',g1,g2,g3,_⟩:=d3b (sw:=[]) ho hx hd (.inr fun t ht=>ht) u st1 hr
  obtain ⟨st2,rd2,wr2,⟨rfl,rfl,rfl⟩,hL⟩:=b26 (V:=V) (P:=P) (G:=G) (N:=N) (d:=d) (act:= .op i) (st:=st) (K:=fun st2 rd2 wr2=>st2=st1/\rd2=rd/\wr2=wr) (by simp only [d0p,g1,and_self])
  exact hL.widen (fun t ht=>List.mem_range.2 (g2 t ht)) (fun t ht=>List.mem_range.2 (g3 t ht)) (fun t ht=>List.mem_range.1 ht) (fun t ht=>List.mem_range.1 ht) (fun t ht hn=>absurd (List.mem_range.2 ht) hn)
theorem c21 {d:Option Nat} {f:FuncId} {args:List (Bool×X)} {tys:List TypeId} {st1 st2:St} {res:AV} {W:List Nat} (h1:gvs N (N+2) args (some st)=some st1) (h2:pss N (N+2) args (some st1)=some st2) (hA:ACalls P G f (a37 N args.length st2) res) (hn:noRef res=true)
  (hN:∀ t∈d.toList++a0s st (args.map (·.2)),t < N) (hW:∀ t∈W,t < N) (hf:fr N W st (b0p (if a0v res then st1 else st2) N d res)) :
  Loc P G N V (b1x P G N d (.call f args tys)) st (b0p (if a0v res then st1 else st2) N d res) (d.toList++a0s st (args.map (·.2))) W:=by
 have hx:=c6u (DL:=d.toList++a0s st (args.map (·.2))) (st:=st) (xs:=args.map (·.2)) (fun t ht=>by simp [ht]) hN
 have hx':∀ p∈args,XO (· ∈d.toList++a0s st (args.map (·.2))) N st p.2:=fun p hp=>hx _ (List.mem_map.2 ⟨p,hp,rfl⟩)
 have hd:DD (· ∈d.toList++a0s st (args.map (·.2))) N d:=fun t ht=>by
  subst ht
  exact ⟨by simp,hN t (by simp)⟩
 rw [<-a56] at h1
 cases hr1:(a4h N (N+2) args).run st with
 | none=>rw [hr1] at h1; cases h1
 | some r1=>
  obtain ⟨u1,st1'⟩:=r1
  rw [hr1] at h1
  simp only [Option.map,Option.some.injEq] at h1
  subst h1
  rw [<-a24] at h2
  cases hr2:(a2s N (N+2) args).run st1' with
  | none=>rw [hr2] at h2; cases h2
  | some r2=>
   obtain ⟨u2,st2'⟩:=r2
   rw [hr2] at h2
   simp only [Option.map,Option.some.injEq] at h2
   subst h2
   obtain ⟨rd,wr,sw1,a1,a2,a3,hb,_,a4⟩:=b74 (N:=N) (D:=(· ∈d.toList++a0s st (args.map (·.2)))) args (N+2) (st:=st) (sw:=[]) (P:=fun _ st' sw'=>BLe N st st'/\(∀ t∈[],t∈sw')/\(∀ i x,args[i]? =some (true,x)->N+2+i∈sw')) (by omega) hx' (fun st' sw' b1 b2 b3=>⟨b1,b2,b3⟩) u1 st1' hr1
   obtain ⟨rd2,wr2,sw2,c1,c2,c3,c4,c5⟩:=b43 (N:=N) (D:=(· ∈d.toList++a0s st (args.map (·.2)))) args (N+2) (st:=st1') (sw:=sw1) (P:=fun _ st' sw'=>(∀ t∈sw1,t∈sw')/\(∀ i x,args[i]? =some (false,x)->N+2+i∈sw')) (by omega) (fun p hp=>(hx' p hp).le hb) (fun st' sw' b1 b2=>⟨b1,b2⟩) u2 st2' hr2
   have hfin:∃ rd3 wr3 sw3,(b51 N d res).runF N ((if a0v res then st1' else st2').clear N) []=some ⟨(),b0p (if a0v res then st1' else st2') N d res,rd3,wr3,sw3⟩/\(∀ t∈rd3,t∈d.toList++a0s st (args.map (·.2)))/\(∀ t∈wr3,t∈d.toList++a0s st (args.map (·.2))):=by
    cases d with
    | none=>exact ⟨[],[],[],rfl,by simp,by simp⟩
    | some d=>
     obtain ⟨rd3,wr3,sw3,e1,e2,e3,_⟩:=FpP.thru (D:=(· ∈(some d).toList++a0s st (args.map (·.2)))) (N:=N) (st:=(if a0v res then st1' else st2').clear N) (sw:=[]) (d:=some d) (v:=res) (M:=N) (P:=tt) (Nat.le_refl _) hd (fun _ _=>trivial) () _ (by rw [a57])
     exact ⟨rd3,wr3,sw3,e1,e2,e3⟩
   obtain ⟨rd3,wr3,sw3,e1,e2,e3⟩:=hfin
   obtain ⟨st3,rd4,wr4,⟨rfl,hrd,hwr⟩,hL⟩:=b26 (V:=V) (P:=P) (G:=G) (N:=N) (d:=d) (act:= .call f args tys) (st:=st) (K:=fun s2 r2 w2=>s2=b0p (if a0v res then st1' else st2') N d res/\(∀ t∈r2,t∈d.toList++a0s st (args.map (·.2)))/\(∀ t∈w2,t∈d.toList++a0s st (args.map (·.2)))) (by
    refine ⟨_,_,_,res,a1,c1,hA,hn,e1,fun i hi=> ?_,rfl,fun t ht=> ?_,fun t ht=> ?_⟩
    ·cases ha:args[i]? with
     | none=>simp at ha; omega
     | some p=>
      obtain ⟨b,x⟩:=p
      cases b with
      | true=>exact c4 _ (a4 i x ha)
      | false=>exact c5 i x ha
    ·simp only [List.mem_append] at ht
     rcases ht with ((ht | ht) | ht) | ht
     ·exact a2 t ht
     ·exact c2 t ht
     ·exact c3 t ht
     ·exact e2 t ht
    ·split at ht<;>simp only [List.mem_append] at ht
     ·rcases ht with ht | ht
      ·exact a3 t ht
      ·exact e3 t ht
     ·rcases ht with (ht | ht) | ht
      ·exact a3 t ht
      ·exact c3 t ht
      ·exact e3 t ht)
   exact hL.widen hrd hwr hN hW hf
end
def b4y (st:St) (N:Nat) (T:List (Nat×AV)) (d:Option Nat) (res:AV):St:=match d with
 | some d=>(st.lentS N T).thru N d res
 | none=>st.lentS N T
theorem a8g {α:Type} {T:List (Nat×α)} {t:Nat} {v:α} (h:T.lookup t=some v):(t,v)∈T:=by
 induction T with
 | nil=>simp at h
 | cons p T ih=>
  obtain ⟨u,x⟩:=p
  by_cases h2:t=u
  ·subst h2
   simp at h
   simp [h]
  ·have:(t==u)=false:=by simpa using h2
   simp only [List.lookup_cons,this] at h
   exact List.mem_cons_of_mem _ (ih h)
def c2z:AV->Bool
 | .lit _=>true
 | _=>false
def a4f (rd:List Nat):X->Bool
 | .t n=>rd.contains n
 | _=>true
def b63 (st:St) (rd:List Nat) (args:List (Bool×X)):Bool:=args.all fun p=> !p.1&&(c2z (rdv st p.2)&&a4f rd p.2)
def a08 (st:St) (j:Nat):List (Bool×X)->St
 | []=>st
 | p::ps=>a08 (st.put j (rdv st p.2)) (j+1) ps
mutual
def a2d (rd:List Nat):AV->Bool
 | .ref t _ _ _=>rd.contains t
 | .bor t _ _ _ _=>rd.contains t
 | .fn _ fs cs=>a2b rd fs&&a2b rd cs
 | _=>true
def a2b (rd:List Nat):List AV->Bool
 | []=>true
 | k::ks=>a2d rd k&&a2b rd ks
end
def b61 (st:St) (rd:List Nat) (n:Nat) (lay:List CS):Bool:=lay.all fun
 | .p k=>decide (k < n)
 | .x y=>a4f rd y&&a2d rd (xv st y)
 | .l _=>false
theorem c0v {v:AV} (h:c2z v=true):∃ u,v= .lit u:=by cases v<;>simp [c2z] at h; exact ⟨_,rfl⟩
theorem b7h {st:St} {j N:Nat} {v:AV} {x:X} (hx:∀ n,x= .t n->n < N) (hj:N<=j):rdv (st.put j v) x=rdv st x:=by
 cases x with
 | t n=>have:=hx n rfl; simp [rdv,show n≠j by omega]
 | _=>rfl
theorem a88 {N:Nat}:∀ (args:List (Bool×X)) (j:Nat) (st:St),(args.all fun p=> !p.1)=true->(a4h N j args).run st=some ((),st)
 | [],j,st,_=>rfl
 | (g,x)::xs,j,st,h=>by
  simp only [List.all_cons,Bool.and_eq_true,Bool.not_eq_true'] at h
  obtain ⟨rfl,h2⟩:=h
  simp only [a4h,Bool.false_eq_true,if_false,Ev.run_bind,Ev.run_pure,Option.bind]
  exact a88 xs (j+1) st h2
theorem a73 {N:Nat}:∀ (args:List (Bool×X)) (j:Nat) (st:St),N<=j->(∀ p∈args,p.1=false/\c2z (rdv st p.2)=true/\∀ n,p.2= .t n->n < N)->(a2s N j args).run st=some ((),a08 st j args)
 | [],j,st,_,_=>rfl
 | (g,x)::xs,j,st,hj,h=>by
  obtain ⟨h1,h2,h3⟩:=h _ (List.mem_cons_self ..)
  simp only at h1 h2 h3
  subst h1
  obtain ⟨u,hu⟩:=c0v h2
  have hp:(b3x N x j).run st=some ((),st.put j (rdv st x)):=by
   unfold b3x
   simp only [Ev.run_bind,a0n,hu,Option.bind,noRef,a0d,if_true]
   cases x<;>simp [a2l,a0j,frz,a5l]
  simp only [a2s,Bool.false_eq_true,if_false,Ev.run_bind,hp,Option.bind,a08]
  refine a73 xs (j+1) _ (by omega) fun p hp2=> ?_
  obtain ⟨k1,k2,k3⟩:=h p (List.mem_cons_of_mem _ hp2)
  exact ⟨k1,by rw [b7h k3 hj]; exact k2,k3⟩
theorem a80 {N:Nat}:∀ (args:List (Bool×X)) (j:Nat) (st:St),(∀ t,t < j->(a08 st j args).s t=st.s t)
 | [],j,st,t,_=>rfl
 | p::ps,j,st,t,ht=>by
  rw [a08,a80 (N:=N) ps (j+1) _ t (by omega)]
  simp [show t≠j by omega]
theorem b02:∀ (args:List (Bool×X)) (j:Nat) (st:St) (N:Nat),N<=j->(∀ p∈args,c2z (rdv st p.2)=true/\∀ n,p.2= .t n->n < N)->∀ t,(a08 st j args).ep t=st.ep t
 | [],j,st,N,_,_,t=>rfl
 | p::ps,j,st,N,hj,h,t=>by
  obtain ⟨h1,h2⟩:=h _ (List.mem_cons_self ..)
  obtain ⟨u,hu⟩:=c0v h1
  rw [a08,b02 ps (j+1) _ N (by omega) (fun q hq=>by
   obtain ⟨k1,k2⟩:=h q (List.mem_cons_of_mem _ hq)
   exact ⟨by rw [b7h k2 hj]; exact k1,k2⟩) t]
  simp [hu,St.put_ep,a0l]
theorem a7q {N:Nat}:∀ (args:List (Bool×X)) (j:Nat) (st:St),N<=j->(∀ p∈args,∀ n,p.2= .t n->n < N)->∀ i p,args[i]? =some p->(a08 st j args).s (j+i)=rdv st p.2
 | [],j,st,_,_,i,p,h=>by simp at h
 | q::ps,j,st,hj,hx,i,p,h=>by
  rw [a08]
  cases i with
  | zero=>
   simp only [List.getElem?_cons_zero,Option.some.injEq] at h
   subst h
   rw [a80 (N:=N) ps (j+1) _ (j+0) (by omega)]
   simp
  | succ i=>
   have:=a7q ps (j+1) (st.put j (rdv st q.2)) (by omega) (fun p hp=>hx p (List.mem_cons_of_mem _ hp)) i p (by simpa using h)
   rw [show j+(i+1)=j+1+i by omega,this]
   exact b7h (hx p (List.mem_cons_of_mem _ (List.mem_of_getElem? (by simpa using h)))) hj
mutual
theorem b5u {stA stB:St} {rd:List Nat} {L:List (Nat×Nat)} (h:∀ t,t∈rd->stB.ep t=stA.ep t):∀ av,a2d rd av=true->trA stB L av=trA stA L av
 | .ref t q o e,hr=>by
  simp only [a2d,List.contains_iff_mem] at hr
  simp only [trA,h t hr]
 | .fn f fs cs,hr=>by
  simp only [a2d,Bool.and_eq_true] at hr
  simp only [trA,b1o h fs hr.1,b1o h cs hr.2]
 | .bor _ _ _ _ _,_=>by simp only [trA]
 | .dead,_ | .lit _,_ | .sl _ _,_ | .ip _ _,_ | .own _ _ _,_ | .var _,_ | .agg _,_ | .tup _,_ | .ifc _ _,_ | .mp _ _,_ | .loan _,_=>by simp only [trA]
theorem b1o {stA stB:St} {rd:List Nat} {L:List (Nat×Nat)} (h:∀ t,t∈rd->stB.ep t=stA.ep t):∀ ks,a2b rd ks=true->trL stB L ks=trL stA L ks
 | [],_=>by simp only [trL]
 | k::ks,hr=>by
  simp only [a2b,Bool.and_eq_true] at hr
  simp only [trL,b5u h k hr.1,b1o h ks hr.2]
end
theorem b3w {N:Nat} {s1 s2 t1 t2:St} {rd:List Nat} (h:∀ t,t∈rd->t1.s t=s1.s t/\t2.s t=s2.s t/\t2.ep t=s2.ep t):∀ (es:List (Option Nat×AV)) (acc:List AV) (L:List (Nat×Nat)),(∀ p∈es,a2d rd p.2=true)->pX N t1 t2 acc L es=pX N s1 s2 acc L es
 | [],acc,L,_=>by simp only [pX]
 | (some k,av)::es,acc,L,hr=>by
  have ih:∀ a l,pX N t1 t2 a l es=pX N s1 s2 a l es:=fun a l=>b3w h es a l fun p hp=>hr p (List.mem_cons_of_mem _ hp)
  simp only [pX,ih]
 | (none,av)::es,acc,L,hr=>by
  have ih:∀ a l,pX N t1 t2 a l es=pX N s1 s2 a l es:=fun a l=>b3w h es a l fun p hp=>hr p (List.mem_cons_of_mem _ hp)
  have h0:=hr _ (List.mem_cons_self ..)
  simp only at h0
  have gen:∀ av,a2d rd av=true->trA t2 L av=trA s2 L av:=fun av ha=>b5u (fun t ht=>(h t ht).2.2) av ha
  cases av with
  | ref t q o e=>
   have ht:t∈rd:=by simpa [a2d] using h0
   obtain ⟨a1,a2,a3⟩:=h t ht
   cases q with
   | nil=>
    cases o with
    | zero=>simp only [pX,ih,a1,a2,a3]
    | succ o=>simp only [pX,gen _ h0,ih]
   | cons i q=>simp only [pX,gen _ h0,ih]
  | bor t q lo n e=>
   have ht:t∈rd:=by simpa [a2d] using h0
   obtain ⟨a1,a2,a3⟩:=h t ht
   cases q with
   | nil=>
    cases lo with
    | zero=>simp only [pX,ih,a1,a2,a3]
    | succ o=>simp only [pX,gen _ h0,ih]
   | cons i q=>simp only [pX,gen _ h0,ih]
  | _=>simp only [pX,gen _ h0,ih]
theorem c0x {V:List (Nat×Nat)} {P:Program} {G:GG} {N:Nat} {st:St} {d:Option Nat} {cv:X} {args:List (Bool×X)} {lay:List CS} {tys:List TypeId} {f:FuncId} {fs cs pre:List AV} {L:List (Nat×Nat)} {res:AV} {posts:List (Nat×AV)} {rd:List Nat}
  (ha:b63 st rd args=true) (hcv:a4f rd cv=true) (hfn:xv st cv= .fn f fs cs) (hfB:fnB P f=true) (hri:(a2b rd fs&&a2b rd cs)=true) (hlay:b61 st rd args.length lay=true)
  (hpx:pX N st (a08 st (N+2) args) [] [] (b3g N (a08 st (N+2) args) fs lay cs)=some (pre,L)) (hA:ACallsX P G f pre res posts) (hnr:noRef res=true) (hpo:posts.map (·.1)=L.map (·.2)) (hvar:∀ i av,(i,av)∈posts->∃ ks,av= .var ks/\a0k ks=true/\∃ ks0,pre[i]? =some (.var ks0))
  (hrd:∀ t∈rd,t < N) (hd:∀ t∈d.toList,t < N) (hL:∀ t∈L.map (·.1),t < N/\t∈rd) :
  Loc P G N V (b1x P G N d (.callx cv args lay tys)) st (b4y st N ((L.map (·.1)).zip (posts.map (·.2))) d res) (d.toList++rd) (d.toList++L.map (·.1)):=by
 have hT:∀ t q,a7a ((L.map (·.1)).zip (posts.map (·.2))) t q=false:=by
  intro t q
  unfold a7a
  split
  ·rename_i i q' ks hl
   have hm:=(List.of_mem_zip (a8g hl)).2
   obtain ⟨p,hp,hpe⟩:=List.mem_map.1 hm
   obtain ⟨ks',he,hno,_⟩:=hvar p.1 p.2 hp
   rw [hpe] at he
   injection he with he
   subst he
   simp [hno]
  ·rename_i i q' sz n ks hl
   have hm:=(List.of_mem_zip (a8g hl)).2
   obtain ⟨p,hp,hpe⟩:=List.mem_map.1 hm
   obtain ⟨ks',he,_⟩:=hvar p.1 p.2 hp
   rw [hpe] at he
   cases he
  ·rfl
 have run:∀ s:St,(∀ t,t∈d.toList++rd\/t∈d.toList++L.map (·.1)->agr st s t)->∀ K:St->Prop,K (b4y s N ((L.map (·.1)).zip (posts.map (·.2))) d res)->b1x P G N d (.callx cv args lay tys) K s:=by
  intro s hag K hK
  have hrs:∀ t,t∈rd->agr st s t:=fun t ht=>hag t (.inl (List.mem_append.2 (.inr ht)))
  have hx:∀ x,a4f rd x=true->rdv s x=rdv st x/\xv s x=xv st x/\∀ n,x= .t n->n < N:=fun x hx=>by
   cases x with
   | t n=>
    have hn:n∈rd:=by simpa [a4f] using hx
    refine ⟨(hrs n hn).1,(hrs n hn).1,fun m hm=> ?_⟩
    injection hm with hm
    subst hm
    exact hrd _ hn
   | _=>exact ⟨rfl,rfl,fun _ h=>by cases h⟩
  have hargs:∀ p∈args,p.1=false/\c2z (rdv s p.2)=true/\(∀ n,p.2= .t n->n < N)/\rdv s p.2=rdv st p.2:=fun p hp=>by
   have:=List.all_eq_true.1 ha p hp
   simp only [Bool.and_eq_true,Bool.not_eq_true'] at this
   obtain ⟨k1,k2,k3⟩:=this
   obtain ⟨e1,_,e3⟩:=hx _ k3
   exact ⟨k1,by rw [e1]; exact k2,e3,e1⟩
  have hargs0:∀ p∈args,c2z (rdv st p.2)=true/\∀ n,p.2= .t n->n < N:=fun p hp=>by
   obtain ⟨_,k2,k3,k4⟩:=hargs p hp
   exact ⟨by rw [<-k4]; exact k2,k3⟩
  have hg:=a88 (N:=N) args (N+2) s (List.all_eq_true.2 fun p hp=>by simp [(hargs p hp).1])
  have hp:=a73 (N:=N) args (N+2) s (by omega) fun p hp=>⟨(hargs p hp).1,(hargs p hp).2.1,(hargs p hp).2.2.1⟩
  have hep:=b02 args (N+2) s N (by omega) fun p hp=>⟨(hargs p hp).2.1,(hargs p hp).2.2.1⟩
  have hep0:=b02 args (N+2) st N (by omega) hargs0
  have hps:=a80 (N:=N) args (N+2) s
  have hps0:=a80 (N:=N) args (N+2) st
  have hxv:∀ (s:St) (y:X),(∀ n,y= .t n->n < N)->xv (a08 s (N+2) args) y=xv s y:=fun s y hy=>by
   cases y with
   | t n=>exact a80 (N:=N) args (N+2) s n (by have:=hy n rfl; omega)
   | _=>rfl
  have hcv2:xv (a08 s (N+2) args) cv= .fn f fs cs:=by rw [hxv s cv (hx cv hcv).2.2,(hx cv hcv).2.1]; exact hfn
  have hlay2:lay.map (b70 N (a08 s (N+2) args))=lay.map (b70 N (a08 st (N+2) args)):=by
   apply List.map_congr_left
   intro c hc
   have:=List.all_eq_true.1 hlay c hc
   cases c with
   | p k=>
    have hk:k < args.length:=by simpa using this
    have h1:=a7q (N:=N) args (N+2) s (by omega) (fun p hp=>(hargs p hp).2.2.1) k args[k] (by simp [hk])
    have h2:=a7q (N:=N) args (N+2) st (by omega) (fun p hp=>(hargs p hp).2.2.1) k args[k] (by simp [hk])
    simp only [b70,h1,h2,(hargs _ (List.getElem_mem hk)).2.2.2]
   | x y=>
    simp only [Bool.and_eq_true] at this
    have hy:=hx y this.1
    simp only [b70,hxv s y hy.2.2,hxv st y hy.2.2,hy.2.1]
   | l t=>cases this
  have heff:b3g N (a08 s (N+2) args) fs lay cs=b3g N (a08 st (N+2) args) fs lay cs:=by simp only [b3g,hlay2]
  simp only [Bool.and_eq_true] at hri
  have hrefL:∀ ks:List AV,a2b rd ks=true->∀ k∈ks,a2d rd k=true:=by
   intro ks
   induction ks with
   | nil=>intro _ k hk; simp at hk
   | cons k ks ih=>
    intro h k' hk'
    simp only [a2b,Bool.and_eq_true] at h
    rcases List.mem_cons.1 hk' with rfl | hk'
    ·exact h.1
    ·exact ih h.2 k' hk'
  have hrefs:∀ p∈b3g N (a08 st (N+2) args) fs lay cs,a2d rd p.2=true:=by
   intro p hp
   simp only [b3g,List.mem_append,List.mem_map] at hp
   rcases hp with ⟨k,hk,rfl⟩ | ⟨c,hc,rfl⟩ | ⟨k,hk,rfl⟩
   ·exact hrefL fs hri.1 k hk
   ·have:=List.all_eq_true.1 hlay c hc
    cases c with
    | p k=>
     have hk:k < args.length:=by simpa using this
     have h2:=a7q (N:=N) args (N+2) st (by omega) (fun p hp=>(hargs p hp).2.2.1) k args[k] (by simp [hk])
     obtain ⟨u,hu⟩:=c0v (hargs0 _ (List.getElem_mem hk)).1
     simp only [b70,h2,hu,a2d]
    | x y=>
     simp only [Bool.and_eq_true] at this
     simp only [b70,hxv st y (hx y this.1).2.2]
     exact this.2
    | l t=>cases this
   ·exact hrefL cs hri.2 k hk
  have hpx2:pX N s (a08 s (N+2) args) [] [] (b3g N (a08 s (N+2) args) fs lay cs)=some (pre,L):=by
   rw [heff,<-hpx]
   exact b3w (rd:=rd) (fun t ht=>⟨(hrs t ht).1,by rw [hps t (by have:=hrd t ht; omega),hps0 t (by have:=hrd t ht; omega)]; exact (hrs t ht).1,by rw [hep,hep0]; exact (hrs t ht).2⟩) _ _ _ hrefs
  have heq:∀ c:Bool,(if c=true then s else a08 s (N+2) args).lentS N ((L.map (·.1)).zip (posts.map (·.2)))=s.lentS N ((L.map (·.1)).zip (posts.map (·.2))):=by
   intro c
   cases c
   ·refine St.ext' (fun u=> ?_) (fun u=>hep u)
    simp only [St.lentS,Bool.false_eq_true,if_false]
    by_cases hu:u < N
    ·simp only [hu,if_true,hps u (by omega)]
    ·simp only [hu,if_false]
   ·rfl
  simp only [b1x,b7y]
  refine ⟨f,fs,cs,s,a08 s (N+2) args,L,pre,res,posts,_,hg,hp,hcv2,hfB,hpx2,hA,hnr,hpo,fun i av hm=>(by obtain ⟨ks,rfl,_,ks0,h0⟩:=hvar i av hm; exact ⟨_,h0,trivial⟩),?_,hK⟩
  rw [heq]
  cases d with
  | none=>simp only [b51,Ev.run_pure,b4y]
  | some d=>simp only [b51,a57,b4y]
 have low:∀ s:St,∀ t,t < N->t ∉ d.toList++L.map (·.1)->agr s (b4y s N ((L.map (·.1)).zip (posts.map (·.2))) d res) t:=by
  intro s t ht hn
  simp only [List.mem_append,not_or] at hn
  have hlk:((L.map (·.1)).zip (posts.map (·.2))).lookup t=none:=by
   cases hl:((L.map (·.1)).zip (posts.map (·.2))).lookup t with
   | none=>rfl
   | some av=>exact absurd (List.of_mem_zip (a8g hl)).1 hn.2
  have hlent:agr s (s.lentS N ((L.map (·.1)).zip (posts.map (·.2)))) t:=by
   refine ⟨?_,rfl⟩
   simp only [St.lentS,ht,if_true,hlk]
   have:a7a ((L.map (·.1)).zip (posts.map (·.2)))=fun _ _=>false:=by funext a b; exact hT a b
   rw [this,a2z]
  cases d with
  | none=>exact hlent
  | some d=>
   have htd:t≠d:=by simpa using hn.1
   simp only [b4y]
   exact ((hlent.trans (agr.putn _ (by omega))).trans (agr.putn _ (by omega))).trans (agr.putn _ htd)
 refine ⟨fun t ht=> ?_,fun t ht hn=>low st t ht hn,fun s _ hag K hK=>run s hag K (hK _ (fun t ht=> ?_) fun t ht hn=>low s t ht hn)⟩
 ·rcases ht with ht | ht<;>rcases List.mem_append.1 ht with ht | ht
  ·exact hd t ht
  ·exact hrd t ht
  ·exact hd t ht
  ·exact (hL t ht).1
 ·have hgt:=hag t (.inr ht)
  have htN:t < N:=by
   rcases List.mem_append.1 ht with ht | ht
   ·exact hd t ht
   ·exact (hL t ht).1
  have hlent:agr (st.lentS N ((L.map (·.1)).zip (posts.map (·.2)))) (s.lentS N ((L.map (·.1)).zip (posts.map (·.2)))) t:=by
   refine ⟨?_,hgt.2⟩
   simp only [St.lentS,htN,if_true,hgt.1]
  cases d with
  | none=>exact hlent
  | some d=>
   simp only [b4y]
   exact ((hlent.put _).put _).put _
def wrE (v:AV) (x:X):List Nat:=if a0j v=true then [] else slX x
def Wop (st:St) (d:Option Nat):IOp->List Nat
 | .asg x=>d.toList++b50 st x
 | .mva x=>d.toList++slX x
 | .mvf x=>d.toList++slX x
 | .box _ _ x=>d.toList++slX x
 | .build _ _ parts=>d.toList++slL (parts.map fun p=>p.2.2.2)
 | .bslice _ _ _ _ _ parts=>d.toList++slL (parts.map fun p=>p.2)
 | .store _ _ x y=>b50 st x++slX y
 | .app _ _ _ _ x y=>d.toList++a0s st [x,y]
 | .mki _ x=>d.toList++slX x
 | .ext x _=>d.toList++wrE (rdv st x) x
 | .mset _ _ x _ _=>b50 st x
 | _=>d.toList
def c1u (b:Bool) (p q:Prop):Prop:=if b then p else q
abbrev DA:=List (List Nat)×List (Nat×Nat)
def a5t (V:List (Nat×Nat)) (st:St) (xs:List X):IOp->List Nat
 | .mv (.t t)=>if V.any (fun p=>p.1==t) then [] else a0s st xs
 | _=>a0s st xs
def e29 (N:Nat) (aft:DA) (fps:List (List Nat×List Nat)) (K:St->Prop) (st:St):Prop:=b2n aft.1 fps=true/\∀ st',(∀ t,t < N->agr st st' t)->K st'
section
variable (P:Program) (G:GG) (N:Nat) (aft:DA)
def b98 (ex:List Nat) (d:Option Nat) (act:IAct) (fps:List (List Nat×List Nat)) (Kn:List (List Nat×List Nat)->St->Prop) (st:St):Prop:=match act with
 | .op i=>match a9r i,evS G N d i st with
  | some xs,some st'=>c1u (d0b N st i) ((∀ t∈ex++(d.toList++a0s st xs),t < N)/\(∀ t∈Wop st d i,t < N)/\fr N (Wop st d i) st st'/\Kn (fps++[(ex++(d.toList++a5t aft.2 st xs i),Wop st d i)]) st')
   ((∀ t∈ex++(d.toList++a0s st xs),t < N)/\Kn (fps++[(ex++List.range N,List.range N)]) st')
  | _,_=>False
 | .call f args _=>match gvs N (N+2) args (some st) with
  | some st1=>match pss N (N+2) args (some st1) with
   | some st2=>∃ res W,ACalls P G f (a37 N args.length st2) res/\noRef res=true/\(∀ t∈ex++(d.toList++a0s st (args.map (·.2))),t < N)/\(∀ t∈W,t < N)/\fr N W st (b0p (if a0v res then st1 else st2) N d res)/\
    Kn (fps++[(ex++(d.toList++a0s st (args.map (·.2))),W)]) (b0p (if a0v res then st1 else st2) N d res)
   | none=>False
  | none=>False
 | .callx cv args lay _=>∃ f fs cs pre L res posts rd,b63 st rd args=true/\a4f rd cv=true/\xv st cv= .fn f fs cs/\fnB P f=true/\(a2b rd fs&&a2b rd cs)=true/\b61 st rd args.length lay=true/\
   pX N st (a08 st (N+2) args) [] [] (b3g N (a08 st (N+2) args) fs lay cs)=some (pre,L)/\ACallsX P G f pre res posts/\noRef res=true/\posts.map (·.1)=L.map (·.2)/\(∀ i av,(i,av)∈posts->∃ ks,av= .var ks/\a0k ks=true/\∃ ks0,pre[i]? =some (.var ks0))/\
   (∀ t∈ex++rd,t < N)/\(∀ t∈d.toList,t < N)/\(∀ t∈L.map (·.1),t < N/\t∈rd)/\Kn (fps++[(ex++(d.toList++rd),d.toList++L.map (·.1))]) (b4y st N ((L.map (·.1)).zip (posts.map (·.2))) d res)
 | .nilq _ _ _=>False
 | .bad _=>False
def a6u:List AO->List (List Nat×List Nat)->(St->Prop)->St->Prop
 | [],fps,K,st=>e29 N aft fps K st
 | io::rest,fps,K,st=>match io.g with
  | none=>b98 P G N aft [] io.dst io.act fps (fun fps st=>a6t aft.2 st/\a6u rest fps K st) st
  | some (_,t,want)=>match st.s t with
   | .lit v=>if b2d want v then b98 P G N aft [t] io.dst io.act fps (fun fps st=>a6t aft.2 st/\a6u rest fps K st) st else (∀ u∈t::io.dst.toList,u < N)/\a6t aft.2 (a2c io.dst st)/\a6u rest (fps++[([t],io.dst.toList)]) K (a2c io.dst st)
   | _=>False
end
section
variable {P:Program} {G:GG} {N:Nat} {aft:DA}
theorem b71 {ex:List Nat} {d:Option Nat} {act:IAct} {fps:List (List Nat×List Nat)} {Kn:List (List Nat×List Nat)->St->Prop} {st:St} (hI:a6t aft.2 st) (h:b98 P G N aft ex d act fps Kn st):∃ st' rd wr,Loc P G N aft.2 (b1x P G N d act) st st' rd wr/\(∀ t∈ex,t < N)/\Kn (fps++[(ex++rd,wr)]) st':=by
 cases act with
 | op i=>
  simp only [b98] at h
  split at h
  ·rename_i xs st' ho he
   unfold c1u at h
   split at h
   ·rename_i hb
    obtain ⟨h1,h2,h4,h5⟩:=h
    have gen:a5t aft.2 st xs i=a0s st xs->∃ st' rd wr,Loc P G N aft.2 (b1x P G N d (.op i)) st st' rd wr/\(∀ t∈ex,t < N)/\Kn (fps++[(ex++rd,wr)]) st':=fun e=>⟨st',_,_,d4b (V:=aft.2) ho he (fun t ht=>h1 t (List.mem_append.2 (.inr ht))) h2 (c6n hb) h4,fun t ht=>h1 t (List.mem_append.2 (.inl ht)),by rw [e] at h5; exact h5⟩
    by_cases hm:∃ t,i= .mv (.t t)/\(aft.2.any fun p=>p.1==t)=true
    ·obtain ⟨t,rfl,ht⟩:=hm
     have e:a5t aft.2 st xs (.mv (.t t))=[]:=by simp only [a5t,ht,if_true]
     rw [e,List.append_nil] at h5
     obtain ⟨p,hp,hpt⟩:=List.any_eq_true.1 ht
     have hpt:p.1=t:=by simpa using hpt
     subst hpt
     cases d with
     | none=>
      exfalso
      have:=(hI p hp).1
      cases hv:st.s p.1<;>simp only [hv,b44,reduceCtorEq] at this
      simp [evS,a0w,mvE,Ev.run_bind,a0n,rdv,hv,a99,Ev.run,setD,Option.bind] at he
     | some d=>
      obtain ⟨q1,q2⟩:=c51 (P:=P) (G:=G) (N:=N) hI hp (h2 d (by simp [Wop])) he
      exact ⟨st',_,_,q1,fun t ht=>h1 t (List.mem_append.2 (.inl ht)),h5⟩
    ·refine gen ?_
     unfold a5t
     split
     ·rename_i t
      rw [if_neg]
      intro hc
      exact hm ⟨t,rfl,hc⟩
     ·rfl
   ·obtain ⟨h1,h5⟩:=h
    exact ⟨st',_,_,c22 ho he (fun t ht=>h1 t (List.mem_append.2 (.inr ht))),fun t ht=>h1 t (List.mem_append.2 (.inl ht)),h5⟩
  ·exact h.elim
 | call f args tys=>
  simp only [b98] at h
  split at h
  ·rename_i st1 hg
   split at h
   ·rename_i st2 hp
    obtain ⟨res,W,h1,h2,h3,h4,h5,h6⟩:=h
    exact ⟨_,_,_,c21 hg hp h1 h2 (fun t ht=>h3 t (List.mem_append.2 (.inr ht))) h4 h5,fun t ht=>h3 t (List.mem_append.2 (.inl ht)),h6⟩
   ·exact h.elim
  ·exact h.elim
 | callx cv args lay tys=>
  simp only [b98] at h
  obtain ⟨f,fs,cs,pre,L,res,posts,rd,h1,h2,h3,h4,h5,h6,h7,h8,h9,h10,h11,h12,h13,h14,h15⟩:=h
  exact ⟨_,_,_,c0x h1 h2 h3 h4 h5 h6 h7 h8 h9 h10 h11 (fun t ht=>h12 t (List.mem_append.2 (.inr ht))) h13 h14,fun t ht=>h12 t (List.mem_append.2 (.inl ht)),h15⟩
 | nilq T x yT=>exact h.elim
 | bad o=>exact h.elim
theorem a7p:∀ (ios:List AO) (fps:List (List Nat×List Nat)) (K:St->Prop) (st:St),a6t aft.2 st->a6u P G N aft ios fps K st->dCh P G N aft.2 ios fps (fun stn fps=>b2n aft.1 fps=true/\∀ st',(∀ t,t < N->agr stn st' t)->K st') st
 | [],fps,K,st,hI,h=>h
 | io::rest,fps,K,st,hI,h=>by
  simp only [a6u] at h
  simp only [dCh]
  cases hg:io.g with
  | none=>
   simp only [hg] at h
   obtain ⟨st',rd,wr,hL,_,hI',hK⟩:=b71 hI h
   refine ⟨st',rd,wr,?_,hI',by simpa using a7p rest _ K st' hI' hK⟩
   have:a8b P G N io=b1x P G N io.dst io.act:=by funext K st; simp only [a8b,hg]
   rw [this]; exact hL
  | some g=>
   obtain ⟨j,t,want⟩:=g
   simp only [hg] at h
   split at h
   ·rename_i v hv
    split at h
    ·rename_i hw
     obtain ⟨st',rd,wr,hL,hex,hI',hK⟩:=b71 hI h
     refine ⟨st',t::rd,wr,?_,hI',by simpa using a7p rest _ K st' hI' hK⟩
     exact {
      lt:=fun u hu=>by
       rcases hu with hu | hu
       ·rcases List.mem_cons.1 hu with rfl | hu
        ·exact hex _ (by simp)
        ·exact hL.lt u (.inl hu)
       ·exact hL.lt u (.inr hu)
      frame:=hL.frame
      loc:=fun st2 hV2 hst K2 hK2=>by
       have h1:st2.s t= .lit v:=by rw [(hst t (.inl (by simp))).1,hv]
       simp only [a8b,hg,h1,hw,if_true]
       exact hL.loc st2 hV2 (fun u hu=>hst u (hu.imp (List.mem_cons_of_mem _) id)) K2 hK2 }
    ·rename_i hw
     obtain ⟨hN,hI',hK⟩:=h
     refine ⟨_,_,_,?_,hI',a7p rest _ K _ hI' hK⟩
     exact {
      lt:=fun u hu=>hN u (by rcases hu with hu | hu<;>simp at hu ⊢<;>simp [hu])
      frame:=fun u hu hn=>by
       cases hd:io.dst with
       | none=>simp only [a2c]; exact agr.refl _ _
       | some d=>
        simp only [a2c]
        refine agr.putn _ ?_
        rintro rfl
        exact hn (by simp [hd])
      loc:=fun st2 hV2 hst K2 hK2=>by
       have h1:st2.s t= .lit v:=by rw [(hst t (.inl (by simp))).1,hv]
       simp only [a8b,hg,h1,hw,Bool.false_eq_true,if_false]
       cases hd:io.dst with
       | none=>
        rw [hd] at hK2
        simp only [a2c] at hK2 ⊢
        exact hK2 _ (fun u hu=>by simp at hu) (fun u _ _=>agr.refl _ _)
       | some d=>
        rw [hd] at hK2 hst
        simp only [a2c] at hK2 ⊢
        refine hK2 _ (fun u hu=> ?_) (fun u _ hn=>agr.putn _ (by rintro rfl; exact hn (by simp)))
        have:u=d:=by simpa using hu
        subst this
        exact (hst u (.inr (by simp))).put _ }
   ·exact h.elim
end
end Go.Ideal
end
