/- Part Qaf of the proof: walks on a machine that is proved sound. -/
import Derived.Test.YtlemfkimffoiiaaDoorQae
set_option linter.unusedVariables false
set_option linter.unusedSimpArgs false
section
namespace Go.Ideal
section
variable {G:GG} {N d:Nat} {st:St}
def tkB (st:St) (N t:Nat) (q:List Nat) (lo n:Nat) (k:Option AV):Option (St×Nat×Nat×List AV):=match k with
 | some (.own sz n0 ks)=>gO (lo=0/\t < N/\n<=n0) (some (st.set t (a0r (st.s t) q .dead),sz,n,ks.take (n*sz)))
 | _=>none
@[congr] theorem e4l {t:Nat} {q:List Nat} {lo n:Nat} {k k':Option AV} (h:k=k'):tkB st N t q lo n k=tkB st N t q lo n k':=by rw [h]
@[go_sem] theorem f5z {t:Nat} {q:List Nat} {lo n sz n0:Nat} {ks:List AV}:tkB st N t q lo n (some (.own sz n0 ks))=gO (lo=0/\t < N/\n<=n0) (some (st.set t (a0r (st.s t) q .dead),sz,n,ks.take (n*sz))):=(rfl)
def tkS (st:St) (N:Nat) (x:X) (v:AV):Option (St×Nat×Nat×List AV):=match v with
 | .own sz n ks=>match x with
  | .t t=>some (st.put t .dead,sz,n,ks)
  | _=>some (st,sz,n,ks)
 | .bor t q lo n e=>tkB st N t q lo n (a2g st t q e)
 | _=>none
@[congr] theorem e4m {x:X} {v v':AV} (h:v=v'):tkS st N x v=tkS st N x v':=by rw [h]
@[go_sem] theorem f54 {t sz n:Nat} {ks:List AV}:tkS st N (.t t) (.own sz n ks)=some (st.put t .dead,sz,n,ks):=(rfl)
@[go_sem] theorem f95 {t sz n:Nat} {ks:List AV}:tkS st N (.nl t) (.own sz n ks)=some (st,sz,n,ks):=(rfl)
@[go_sem] theorem f52 {x:X} {t:Nat} {q:List Nat} {lo n e:Nat}:tkS st N x (.bor t q lo n e)=tkB st N t q lo n (a2g st t q e):=(rfl)
theorem b8n (x:X):(c03 x N).run st=(tkS st N x (rdv st x)).map fun r=>((),r.1.put N (.own r.2.1 r.2.2.1 r.2.2.2)):=by
 simp only [c03,Ev.run_bind,a0t,Option.bind]
 cases hv:rdv st x<;>try rfl
 ·cases x<;>rfl
 ·rename_i t q lo n e
  simp only [tkS,Ev.run_bind,a1l,Option.bind,a0f]
  by_cases he:e=st.ep t
  ·subst he
   simp only [a2g,if_true,beq_self_eq_true,Bool.true_and]
   cases hk:a0e (st.s t) q with
   | none=>
    simp only [tkB,Option.map]
    generalize (lo==0&&decide (t < N))=b
    cases b
    ·rfl
    ·simp only [if_true,a0y,hk]; rfl
   | some k=>
    by_cases h1:lo=0
    ·by_cases h2:t < N
     ·simp only [h1,h2,beq_self_eq_true,decide_true,Bool.and_self,if_true,a0y,hk,Option.map]
      cases k<;>try rfl
      rename_i sz n0 ks
      simp only [tkB,gO,Ev.run_bind,a0f,Option.bind,h2,true_and]
      by_cases h3:n<=n0
      ·simp only [h3,decide_true,if_true]; rfl
      ·simp only [h3,decide_false,Bool.false_eq_true,if_false]
     ·simp only [h2,decide_false,Bool.and_false,Bool.false_eq_true,if_false]
      cases k<;>try rfl
      simp only [tkB,gO,h2,false_and,and_false,if_false]; rfl
    ·have:(lo==0)=false:=by simpa using h1
     simp only [this,Bool.false_and,Bool.false_eq_true,if_false]
     cases k<;>try rfl
     simp only [tkB,gO,h1,false_and,if_false]; rfl
  ·have:(e==st.ep t)=false:=by simpa using he
   simp only [this,Bool.false_and,Bool.false_eq_true,if_false,a2g,he]; rfl
def srB (st:St) (N t:Nat) (q:List Nat) (lo n:Nat) (k:Option AV):Option (St×AV):=match k with
 | some (.own sz n0 ks)=>gO (t < N/\lo+n<=n0) (some (st.set t (a0r (st.s t) q (frz (.own sz n0 ks))),.sl n (((a1m ks).drop (lo*sz)).take (n*sz))))
 | _=>none
@[congr] theorem e4e {t:Nat} {q:List Nat} {lo n:Nat} {k k':Option AV} (h:k=k'):srB st N t q lo n k=srB st N t q lo n k':=by rw [h]
@[go_sem] theorem f5n {t:Nat} {q:List Nat} {lo n sz n0:Nat} {ks:List AV}:srB st N t q lo n (some (.own sz n0 ks))=gO (t < N/\lo+n<=n0) (some (st.set t (a0r (st.s t) q (frz (.own sz n0 ks))),.sl n (((a1m ks).drop (lo*sz)).take (n*sz)))):=(rfl)
def srS (st:St) (N:Nat) (x:X) (v:AV):Option (St×AV):=match v with
 | .own sz n ks=>match x with
  | .t t=>some (st.put t .dead,.own sz n ks)
  | _=>some (st,.own sz n ks)
 | .sl n ks=>some (st,.sl n ks)
 | .bor t q lo n e=>srB st N t q lo n (a2g st t q e)
 | _=>none
@[congr] theorem e4f {x:X} {v v':AV} (h:v=v'):srS st N x v=srS st N x v':=by rw [h]
@[go_sem] theorem f5p {t sz n:Nat} {ks:List AV}:srS st N (.t t) (.own sz n ks)=some (st.put t .dead,.own sz n ks):=(rfl)
@[go_sem] theorem f9z {t sz n:Nat} {ks:List AV}:srS st N (.nl t) (.own sz n ks)=some (st,.own sz n ks):=(rfl)
@[go_sem] theorem f90 {x:X} {n:Nat} {ks:List AV}:srS st N x (.sl n ks)=some (st,.sl n ks):=(rfl)
@[go_sem] theorem f5o {x:X} {t:Nat} {q:List Nat} {lo n e:Nat}:srS st N x (.bor t q lo n e)=srB st N t q lo n (a2g st t q e):=(rfl)
theorem c9i (x:X):(d66 x N).run st=(srS st N x (rdv st x)).map fun r=>((),r.1.put (N+1) r.2):=by
 simp only [d66,Ev.run_bind,a0t,Option.bind]
 cases hv:rdv st x<;>try rfl
 ·cases x<;>rfl
 ·rename_i t q lo n e
  simp only [srS,Ev.run_bind,a1l,Option.bind,a0f]
  by_cases he:e=st.ep t
  ·subst he
   simp only [a2g,if_true,beq_self_eq_true,Bool.true_and]
   cases hk:a0e (st.s t) q with
   | none=>
    simp only [srB,Option.map]
    generalize (decide (t < N))=b
    cases b
    ·rfl
    ·simp only [if_true,a0y,hk]; rfl
   | some k=>
    by_cases h2:t < N
    ·simp only [h2,decide_true,Bool.and_self,if_true,a0y,hk,Option.map]
     cases k<;>try rfl
     rename_i sz n0 ks
     simp only [srB,gO,Ev.run_bind,a0f,Option.bind,h2,true_and]
     by_cases h3:lo+n<=n0
     ·simp only [h3,decide_true,if_true]; rfl
     ·simp only [h3,decide_false,Bool.false_eq_true,if_false]
    ·simp only [h2,decide_false,Bool.and_false,Bool.false_eq_true,if_false]
     cases k<;>try rfl
     simp only [srB,gO,h2,false_and,and_false,if_false]; rfl
  ·have:(e==st.ep t)=false:=by simpa using he
   simp only [this,Bool.false_and,Bool.false_eq_true,if_false,a2g,he]; rfl
def apV (sz by_:Nat) (s y:AV):Option (AV):=match s,y with
 | .own sz1 n xs,.own sz2 m ys=>gO (sz1=sz/\sz2=sz/\(n+m)*by_<=140737488355328/\n+m<=140737488355328) (some (.own sz (n+m) (xs++ys)))
 | .own sz1 n xs,.sl m ys=>gO (sz1=sz/\ys.length=m*sz/\(n+m)*by_<=140737488355328/\n+m<=140737488355328) (some (.own sz (n+m) (xs++ys)))
 | _,_=>none
@[go_sem] theorem e9n {sz by_ sz1 sz2 n m:Nat} {xs ys:List AV}:apV sz by_ (.own sz1 n xs) (.own sz2 m ys)=gO (sz1=sz/\sz2=sz/\(n+m)*by_<=140737488355328/\n+m<=140737488355328) (some (.own sz (n+m) (xs++ys))):=(rfl)
@[go_sem] theorem f6l {sz by_ sz1 n m:Nat} {xs ys:List AV}:apV sz by_ (.own sz1 n xs) (.sl m ys)=gO (sz1=sz/\ys.length=m*sz/\(n+m)*by_<=140737488355328/\n+m<=140737488355328) (some (.own sz (n+m) (xs++ys))):=(rfl)
def apF (st:St) (N d:Nat) (o:Option AV):Option St:=match o with
 | some v=>some ((st.put (N+1) .dead).thru N d v)
 | none=>none
@[congr] theorem d7r {o o':Option AV} (h:o=o'):apF st N d o=apF st N d o':=by rw [h]
@[go_sem] theorem e43 {v:AV}:apF st N d (some v)=some ((st.put (N+1) .dead).thru N d v):=(rfl)
def ap2 (N d sz by_:Nat) (r:Option (St×AV)):Option St:=match r with
 | some (st2,v)=>apF (st2.put (N+1) v) N d (apV sz by_ ((st2.put (N+1) v).s N) v)
 | none=>none
@[congr] theorem d7q {sz by_:Nat} {r r':Option (St×AV)} (h:r=r'):ap2 N d sz by_ r=ap2 N d sz by_ r':=by rw [h]
@[go_sem] theorem e42 {sz by_:Nat} {v:AV}:ap2 N d sz by_ (some (st,v))=apF (st.put (N+1) v) N d (apV sz by_ ((st.put (N+1) v).s N) v):=(rfl)
def ap1 (N d sz by_:Nat) (y:X) (r:Option (St×Nat×Nat×List AV)):Option St:=match r with
 | some (st1,s,n,ks)=>ap2 N d sz by_ (srS (st1.put N (.own s n ks)) N y (rdv (st1.put N (.own s n ks)) y))
 | none=>none
@[congr] theorem d7p {sz by_:Nat} {y:X} {r r':Option (St×Nat×Nat×List AV)} (h:r=r'):ap1 N d sz by_ y r=ap1 N d sz by_ y r':=by rw [h]
@[go_sem] theorem e41 {sz by_ s n:Nat} {ks:List AV} {y:X}:ap1 N d sz by_ y (some (st,s,n,ks))=ap2 N d sz by_ (srS (st.put N (.own s n ks)) N y (rdv (st.put N (.own s n ks)) y)):=(rfl)
@[go_sem] theorem f0u {T e:TypeId} {sz by_:Nat} {x y:X}:evS G N (some d) (.app T e sz by_ x y) st=ap1 N d sz by_ y (tkS st N x (rdv st x)):=by
 simp only [evS,a04,Ev.run_bind,b8n,Option.bind]
 cases tkS st N x (rdv st x) with
 | none=>rfl
 | some r=>
  obtain ⟨st1,s,n,ks⟩:=r
  simp only [Option.map,c9i,ap1]
  cases srS (st1.put N (.own s n ks)) N y (rdv (st1.put N (.own s n ks)) y) with
  | none=>rfl
  | some r=>
   obtain ⟨st2,v⟩:=r
   have h1:(st2.put (N+1) v).s (N+1)=v:=by simp
   simp only [a4s,ap2,h1]
   have hown:∀ sz1 n xs sz2 m ys,((do
     a0k (sz1==sz&&sz2==sz&&decide ((n+m)*by_<=140737488355328)&&decide (n+m<=140737488355328))
     a2z (N+1) .dead
     a3t N (some d) (.own sz (n+m) (xs++ys)):Ev Unit).run (st2.put (N+1) v)).map (·.2)=apF (st2.put (N+1) v) N d (gO (sz1=sz/\sz2=sz/\(n+m)*by_<=140737488355328/\n+m<=140737488355328) (some (.own sz (n+m) (xs++ys)))):=by
    intro sz1 n xs sz2 m ys
    simp only [Ev.run_bind,a0f,Option.bind,gO]
    by_cases hc:sz1=sz/\sz2=sz/\(n+m)*by_<=140737488355328/\n+m<=140737488355328
    ·have:(sz1==sz&&sz2==sz&&decide ((n+m)*by_<=140737488355328)&&decide (n+m<=140737488355328))=true:=by
      simp only [Bool.and_eq_true,decide_eq_true_eq,beq_iff_eq]
      exact ⟨⟨⟨hc.1,hc.2.1⟩,hc.2.2.1⟩,hc.2.2.2⟩
     simp only [this,if_true,if_pos hc]; rfl
    ·have:(sz1==sz&&sz2==sz&&decide ((n+m)*by_<=140737488355328)&&decide (n+m<=140737488355328))=false:=by
      rw [Bool.eq_false_iff]; intro hh
      simp only [Bool.and_eq_true,decide_eq_true_eq,beq_iff_eq] at hh
      exact hc ⟨hh.1.1.1,hh.1.1.2,hh.1.2,hh.2⟩
     simp only [this,Bool.false_eq_true,if_false,if_neg hc]; rfl
   have hsl:∀ sz1 n xs m ys,((do
     a0k (sz1==sz&&decide (ys.length=m*sz)&&decide ((n+m)*by_<=140737488355328)&&decide (n+m<=140737488355328))
     a2z (N+1) .dead
     a3t N (some d) (.own sz (n+m) (xs++ys)):Ev Unit).run (st2.put (N+1) v)).map (·.2)=apF (st2.put (N+1) v) N d (gO (sz1=sz/\ys.length=m*sz/\(n+m)*by_<=140737488355328/\n+m<=140737488355328) (some (.own sz (n+m) (xs++ys)))):=by
    intro sz1 n xs m ys
    simp only [Ev.run_bind,a0f,Option.bind,gO]
    by_cases hc:sz1=sz/\ys.length=m*sz/\(n+m)*by_<=140737488355328/\n+m<=140737488355328
    ·have:(sz1==sz&&decide (ys.length=m*sz)&&decide ((n+m)*by_<=140737488355328)&&decide (n+m<=140737488355328))=true:=by
      simp only [Bool.and_eq_true,decide_eq_true_eq,beq_iff_eq]
      exact ⟨⟨⟨hc.1,hc.2.1⟩,hc.2.2.1⟩,hc.2.2.2⟩
     simp only [this,if_true,if_pos hc]; rfl
    ·have:(sz1==sz&&decide (ys.length=m*sz)&&decide ((n+m)*by_<=140737488355328)&&decide (n+m<=140737488355328))=false:=by
      rw [Bool.eq_false_iff]; intro hh
      simp only [Bool.and_eq_true,decide_eq_true_eq,beq_iff_eq] at hh
      exact hc ⟨hh.1.1.1,hh.1.1.2,hh.1.2,hh.2⟩
     simp only [this,Bool.false_eq_true,if_false,if_neg hc]; rfl
   cases hs:(st2.put (N+1) v).s N<;>try rfl
   cases v<;>first | rfl | exact hown _ _ _ _ _ _ | exact hsl _ _ _ _ _
def c11 (N:Nat):List (Nat×Nat×X)->St->Option St
 | [],st=>some st
 | (off,sz,x)::rest,st=>match giv st N x (rdv st x) with
  | some (st1,cs)=>match st1.s (N+1) with
   | .agg zs=>gO (cs.length=sz/\off+sz<=zs.length) (c11 N rest ((st1.put N .dead).put (N+1) (.agg (a0i zs off cs))))
   | _=>none
  | none=>none
@[congr] theorem d6h {l l':List (Nat×Nat×X)} {st':St} (hl:l=l') (h:st=st'):c11 N l st=c11 N l' st':=by rw [hl,h]
@[go_sem] theorem e8b:c11 N [] st=some st:=(rfl)
def d6f (N off sz:Nat) (rest:List (Nat×Nat×X)) (st:St) (cs:List AV) (v:AV):Option St:=match v with
 | .agg zs=>gO (cs.length=sz/\off+sz<=zs.length) (c11 N rest ((st.put N .dead).put (N+1) (.agg (a0i zs off cs))))
 | _=>none
@[congr] theorem d6g {off sz:Nat} {rest:List (Nat×Nat×X)} {cs:List AV} {v v':AV} (h:v=v'):d6f N off sz rest st cs v=d6f N off sz rest st cs v':=by rw [h]
@[go_sem] theorem e8a {off sz:Nat} {rest:List (Nat×Nat×X)} {cs zs:List AV}:d6f N off sz rest st cs (.agg zs)=gO (cs.length=sz/\off+sz<=zs.length) (c11 N rest ((st.put N .dead).put (N+1) (.agg (a0i zs off cs)))):=(rfl)
def e2y (N off sz:Nat) (rest:List (Nat×Nat×X)) (r:Option (St×List AV)):Option St:=match r with
 | some (st1,cs)=>d6f N off sz rest st1 cs (st1.s (N+1))
 | none=>none
@[congr] theorem d6e {off sz:Nat} {rest:List (Nat×Nat×X)} {r r':Option (St×List AV)} (h:r=r'):e2y N off sz rest r=e2y N off sz rest r':=by rw [h]
@[go_sem] theorem e2z {off sz:Nat} {rest:List (Nat×Nat×X)} {cs:List AV}:e2y N off sz rest (some (st,cs))=d6f N off sz rest st cs (st.s (N+1)):=(rfl)
@[go_sem] theorem e20 {off sz:Nat} {x:X} {rest:List (Nat×Nat×X)}:c11 N ((off,sz,x)::rest) st=e2y N off sz rest (giv st N x (rdv st x)):=by
 simp only [c11,e2y]
 cases giv st N x (rdv st x) with
 | none=>rfl
 | some r=>obtain ⟨st1,cs⟩:=r; simp only [d6f]
theorem b0q:∀ (l:List (Nat×Nat×X)) (st:St),(a6l N l).run st=(c11 N l st).map fun st=>((),st)
 | [],st=>rfl
 | (off,sz,x)::rest,st=>by
  simp only [a6l,Ev.run_bind,a9x,Option.bind,c11]
  cases giv st N x (rdv st x) with
  | none=>rfl
  | some r=>
   obtain ⟨st1,cs⟩:=r
   have hN:(st1.put N (.agg cs)).s N= .agg cs:=by simp
   have hN1:(st1.put N (.agg cs)).s (N+1)=st1.s (N+1):=by simp
   simp only [Option.map,b8x,Ev.run_bind,a4s,Option.bind,hN,Ev.run_pure,hN1]
   cases st1.s (N+1)<;>try rfl
   rename_i zs
   simp only [Ev.run_pure,a0f,gO]
   by_cases hc:cs.length=sz/\off+sz<=zs.length
   ·simp only [hc.1,hc.2,decide_true,Bool.and_self,if_true,and_self,a5t,b1c (show nm (AV.agg cs)=false from rfl)]
    exact b0q rest _
   ·have:(decide (cs.length=sz)&&decide (off+sz<=zs.length))=false:=by
     rw [Bool.eq_false_iff]; intro hh
     simp only [Bool.and_eq_true,decide_eq_true_eq] at hh
     exact hc hh
    simp only [this,Bool.false_eq_true,if_false,if_neg hc]
def d8a (st:St) (N d:Nat) (v:AV):Option St:=match v with
 | .agg ks=>some ((st.put (N+1) .dead).put d (.agg ks))
 | _=>none
@[congr] theorem d4c {v v':AV} (h:v=v'):d8a st N d v=d8a st N d v':=by rw [h]
@[go_sem] theorem e5h {ks:List AV}:d8a st N d (.agg ks)=some ((st.put (N+1) .dead).put d (.agg ks)):=(rfl)
def d78 (N d:Nat) (o:Option St):Option St:=match o with
 | some st=>d8a st N d (st.s (N+1))
 | none=>none
@[congr] theorem d4b {o o':Option St} (h:o=o'):d78 N d o=d78 N d o':=by rw [h]
@[go_sem] theorem d79:d78 N d (some st)=d8a st N d (st.s (N+1)):=(rfl)
@[go_sem] theorem d9f {T:TypeId} {zs:List AV} {parts:List (Nat×Nat×Nat×X)}:evS G N (some d) (.build T zs parts) st=d78 N d (c11 N (parts.map fun p=>p.2) (st.put (N+1) (.agg zs))):=by
 simp only [evS,a04,Ev.run_bind,a5t,Option.bind,b0q]
 cases c11 N (parts.map fun p=>p.2) (st.put (N+1) (.agg zs)) with
 | none=>rfl
 | some s=>
  simp only [Option.map,b8x,Ev.run_bind,a4s,Option.bind,d78]
  cases s.s (N+1)<;>rfl
def d8f (st:St) (N d sz len:Nat) (v:AV):Option St:=match v with
 | .agg ks=>some (st.thru (N+1) d (.own sz len ks))
 | _=>none
@[congr] theorem d4f {sz len:Nat} {v v':AV} (h:v=v'):d8f st N d sz len v=d8f st N d sz len v':=by rw [h]
@[go_sem] theorem e5m {sz len:Nat} {ks:List AV}:d8f st N d sz len (.agg ks)=some (st.thru (N+1) d (.own sz len ks)):=(rfl)
def d8d (N d sz len:Nat) (o:Option St):Option St:=match o with
 | some st=>d8f st N d sz len (st.s (N+1))
 | none=>none
@[congr] theorem d4e {sz len:Nat} {o o':Option St} (h:o=o'):d8d N d sz len o=d8d N d sz len o':=by rw [h]
@[go_sem] theorem d8e {sz len:Nat}:d8d N d sz len (some st)=d8f st N d sz len (st.s (N+1)):=(rfl)
@[go_sem] theorem d5b {T e:TypeId} {sz len:Nat} {zs:List AV} {parts:List (Nat×X)}:evS G N (some d) (.bslice T e sz len zs parts) st=d8d N d sz len (c11 N (parts.map fun p=>(p.1*sz,sz,p.2)) (st.put (N+1) (.agg (a58 len zs)))):=by
 simp only [evS,a04,Ev.run_bind,a5t,Option.bind,b0q]
 cases c11 N (parts.map fun p=>(p.1*sz,sz,p.2)) (st.put (N+1) (.agg (a58 len zs))) with
 | none=>rfl
 | some s=>
  simp only [Option.map,b8x,Ev.run_bind,a4s,Option.bind,d8d]
  cases s.s (N+1)<;>rfl
def d8b (N d sz:Nat) (r:Option (St×List AV)):Option St:=match r with
 | some (st1,cs)=>gO (cs.length=sz) (some ((st1.put N (.agg cs)).thru N d (.var cs)))
 | none=>none
@[congr] theorem d4d {sz:Nat} {r r':Option (St×List AV)} (h:r=r'):d8b N d sz r=d8b N d sz r':=by rw [h]
@[go_sem] theorem d8c {sz:Nat} {cs:List AV}:d8b N d sz (some (st,cs))=gO (cs.length=sz) (some ((st.put N (.agg cs)).thru N d (.var cs))):=(rfl)
@[go_sem] theorem f0w {T:TypeId} {sz:Nat} {x:X}:evS G N (some d) (.box T sz x) st=d8b N d sz (giv st N x (rdv st x)):=by
 simp only [evS,a04,Ev.run_bind,a9x,Option.bind]
 cases giv st N x (rdv st x) with
 | none=>rfl
 | some r=>
  obtain ⟨st1,cs⟩:=r
  have hN:(st1.put N (.agg cs)).s N= .agg cs:=by simp
  simp only [Option.map,b8x,Ev.run_bind,a4s,Option.bind,hN,Ev.run_pure,a0f,d8b,gO]
  by_cases hc:cs.length=sz
  ·simp only [hc,decide_true,if_true]; rfl
  ·simp only [hc,decide_false,Bool.false_eq_true,if_false]
def e1g (st:St) (N d sz by_:Nat) (zs:List AV) (l c:Option Int):Option St:=match l,c with
 | some n,some m=>gO (0<=n/\n<=m/\m*by_<=140737488355328/\m<=140737488355328) (some (st.thru N d (.own sz n.toNat (a58 n.toNat zs))))
 | _,_=>none
@[congr] theorem d53 {sz by_:Nat} {zs:List AV} {l l' c c':Option Int} (h:l=l') (h2:c=c'):e1g st N d sz by_ zs l c=e1g st N d sz by_ zs l' c':=by rw [h,h2]
@[go_sem] theorem e1h {sz by_:Nat} {zs:List AV} {n m:Int}:e1g st N d sz by_ zs (some n) (some m)=gO (0<=n/\n<=m/\m*by_<=140737488355328/\m<=140737488355328) (some (st.thru N d (.own sz n.toNat (a58 n.toNat zs)))):=(rfl)
@[go_sem] theorem f04 {T e:TypeId} {sz by_:Nat} {zs:List AV} {l c:X}:evS G N (some d) (.mks T e sz by_ zs l c) st=e1g st N d sz by_ zs (c61 (rdv st l)) (c61 (rdv st c)):=by
 simp only [evS,a04,Ev.run_bind,b12,Option.bind,e1g]
 cases c61 (rdv st l) with
 | none=>rfl
 | some n=>
  simp only [Option.map,b12]
  cases c61 (rdv st c) with
  | none=>rfl
  | some m=>
   simp only [Option.map,Ev.run_bind,a0f,Option.bind,gO]
   by_cases hc:0<=n/\n<=m/\m*by_<=140737488355328/\m<=140737488355328
   ·obtain ⟨h1,h2,h3,h4⟩:=hc
    simp only [h1,h2,h3,h4,decide_true,Bool.and_self,if_true,and_self]; rfl
   ·have:(decide (0<=n)&&decide (n<=m)&&decide (m*by_<=140737488355328)&&decide (m<=140737488355328))=false:=by
     rw [Bool.eq_false_iff]; intro hh
     simp only [Bool.and_eq_true,decide_eq_true_eq] at hh
     exact hc ⟨hh.1.1.1,hh.1.1.2,hh.1.2,hh.2⟩
    simp only [this,Bool.false_eq_true,if_false,if_neg hc]
def d51 (st:St) (d:Nat) (T:TypeId) (x:X) (v:AV):Option St:=match v with
 | .lit v=>some (st.put d (.lit (.iface T v)))
 | .var ks=>match x with
  | .t t=>some ((st.set t (frz (.var ks))).put d (.ifc T (frz (.var ks))))
  | _=>none
 | .ip ks o=>some (st.put d (.ifc T (.ip ks o)))
 | _=>none
@[congr] theorem d52 {T:TypeId} {x:X} {v v':AV} (h:v=v'):d51 st d T x v=d51 st d T x v':=by rw [h]
@[go_sem] theorem f03 {T:TypeId} {x:X}:evS G N (some d) (.mki T x) st=d51 st d T x (rdv st x):=by
 simp only [evS,a04,Ev.run_bind,a0t,Option.bind]
 cases hv:rdv st x<;>try rfl
 cases x<;>rfl
@[go_sem] theorem e7k {T:TypeId} {x:X} {v:Value}:d51 st d T x (.lit v)=some (st.put d (.lit (.iface T v))):=(rfl)
@[go_sem] theorem e7l {T:TypeId} {t:Nat} {ks:List AV}:d51 st d T (.t t) (.var ks)=some ((st.set t (.ip (a1m ks) 0)).put d (.ifc T (.ip (a1m ks) 0))):=(rfl)
@[go_sem] theorem f3d {T:TypeId} {x:X} {ks:List AV} {o:Nat}:d51 st d T x (.ip ks o)=some (st.put d (.ifc T (.ip ks o))):=(rfl)
def d15 (st:St) (d:Nat) (k:Option AV):Option St:=match k with
 | some k=>if a0n k then some (st.put d k) else none
 | none=>none
@[congr] theorem d5g {k k':Option AV} (h:k=k'):d15 st d k=d15 st d k':=by rw [h]
@[go_sem] theorem d9y {k:AV}:d15 st d (some k)=iO (a0n k) (some (st.put d k)) none:=(rfl)
def d9z (st:St) (d off:Nat) (v:AV):Option St:=match v with
 | .agg ks=>d15 st d ks[off]?
 | _=>none
@[congr] theorem d5h {off:Nat} {v v':AV} (h:v=v'):d9z st d off v=d9z st d off v':=by rw [h]
@[go_sem] theorem e6i {off:Nat} {ks:List AV}:d9z st d off (.agg ks)=d15 st d ks[off]? :=(rfl)
@[go_sem] theorem f0z {T off f:Nat} {x:X}:evS G N (some d) (.fld T off x f) st=d9z st d off (rdv st x):=by
 simp only [evS,a04,Ev.run_bind,a0t,Option.bind]
 cases hv:rdv st x<;>try rfl
 rename_i ks
 simp only [d9z,Ev.run_bind,a0y,Option.bind]
 cases ks[off]? with
 | none=>rfl
 | some k=>
  simp only [d15,Ev.run_bind,a0f,Option.bind]
  cases hn:a0n k
  ·simp [d15,Ev.run_bind,a0f,a0y,hn]
  ·simp only [Option.map,hn,if_true]; rfl
def d12 (st:St) (N d:Nat) (x:X) (i:Nat) (ks:List AV) (k:Option AV):Option St:=match k with
 | some k=>if a0n k then some (st.put d k) else match x with
  | .t t=>some ((st.put t (.tup (ks.set i .dead))).thru N d k)
  | _=>none
 | none=>none
@[congr] theorem d5d {x:X} {i:Nat} {ks:List AV} {k k':Option AV} (h:k=k'):d12 st N d x i ks k=d12 st N d x i ks k':=by rw [h]
@[go_sem] theorem d9r {t i:Nat} {ks:List AV} {k:AV}:d12 st N d (.t t) i ks (some k)=iO (a0n k) (some (st.put d k)) (some ((st.put t (.tup (ks.set i .dead))).thru N d k)):=(rfl)
def d9s (st:St) (N d:Nat) (x:X) (i:Nat) (v:AV):Option St:=match v with
 | .tup ks=>d12 st N d x i ks ks[i]?
 | _=>none
@[congr] theorem d5e {x:X} {i:Nat} {v v':AV} (h:v=v'):d9s st N d x i v=d9s st N d x i v':=by rw [h]
@[go_sem] theorem e6f {x:X} {i:Nat} {ks:List AV}:d9s st N d x i (.tup ks)=d12 st N d x i ks ks[i]? :=(rfl)
@[go_sem] theorem f0y {x:X} {i:Nat}:evS G N (some d) (.ext x i) st=d9s st N d x i (rdv st x):=by
 simp only [evS,a04,Ev.run_bind,a0t,Option.bind]
 cases hv:rdv st x<;>try rfl
 rename_i ks
 simp only [d9s,Ev.run_bind,a0y,Option.bind]
 cases ks[i]? with
 | none=>rfl
 | some k=>
  simp only [Option.map,d12]
  generalize a0n k=b
  cases b<;>cases x<;>rfl
def d0t (T:TypeId) (zs:List AV) (v:AV):Option AV:=match v,zs with
 | .lit .nilIface,[z]=>some (.tup [z,.lit (.bool false)])
 | .lit (.iface T' u),[z]=>some (.tup (if T'=T then [.lit u,.lit (.bool true)] else [z,.lit (.bool false)]))
 | .ifc T' k,[z]=>if a0n k then some (.tup (if T'=T then [k,.lit (.bool true)] else [z,.lit (.bool false)])) else none
 | _,_=>none
@[congr] theorem d7c {T:TypeId} {zs:List AV} {v v':AV} (h:v=v'):d0t T zs v=d0t T zs v':=by rw [h]
@[go_sem] theorem e9d {T:TypeId} {z:AV}:d0t T [z] (.lit .nilIface)=some (.tup [z,.lit (.bool false)]):=(rfl)
@[go_sem] theorem e9c {T T':TypeId} {u:Value} {z:AV}:d0t T [z] (.lit (.iface T' u))=some (.tup (if T'=T then [.lit u,.lit (.bool true)] else [z,.lit (.bool false)])):=(rfl)
@[go_sem] theorem f5v {T T':TypeId} {ks:List AV} {o:Nat} {z:AV}:d0t T [z] (.ifc T' (.ip ks o))=some (.tup (if T'=T then [.ip ks o,.lit (.bool true)] else [z,.lit (.bool false)])):=(rfl)
@[go_sem] theorem f09 {x:X} {xT T:TypeId} {zs:List AV}:evS G N (some d) (.tas x xT T zs) st=b11 st d (d0t T zs (rdv st x)):=by
 simp only [evS,a04,Ev.run_bind,a0t,Option.bind]
 have two:∀ v:AV,(∀ z,zs≠[z])->((match v,zs with
  | .lit .nilIface,[z]=>setD (some d) (.tup [z,.lit (.bool false)])
  | .lit (.iface T' u),[z]=>setD (some d) (.tup (if T'=T then [.lit u,.lit (.bool true)] else [z,.lit (.bool false)]))
  | .ifc T' k,[z]=>do
   a0k (a0n k)
   setD (some d) (.tup (if T'=T then [k,.lit (.bool true)] else [z,.lit (.bool false)]))
  | _,_=>Ev.fail:Ev Unit).run st).map (·.2)=b11 st d (d0t T zs v):=by
  intro v h
  cases v<;>(cases zs with
   | nil=>first | rfl | (rename_i v; cases v<;>rfl)
   | cons a l=>cases l with
    | nil=>exact (h a rfl).elim
    | cons b l=>first | rfl | (rename_i v; cases v<;>rfl))
 cases zs with
 | nil=>exact two _ (by simp)
 | cons z l=>
  cases l with
  | cons b l=>exact two _ (by simp)
  | nil=>
   cases hv:rdv st x<;>try rfl
   ·rename_i v; cases v<;>rfl
   ·simp only [Ev.run_bind,a0f,Option.bind,d0t]
    generalize a0n _=b
    cases b<;>rfl
def cvI (k:IntKind) (v:AV):Option AV:=match v with
 | .lit (.int _ n)=>some (.lit (.int k (k.wrap n)))
 | _=>none
@[congr] theorem d8r {k:IntKind} {v v':AV} (h:v=v'):cvI k v=cvI k v':=by rw [h]
@[go_sem] theorem e91 {k k':IntKind} {n:Int}:cvI k (.lit (.int k' n))=some (.lit (.int k (k.wrap n))):=(rfl)
@[go_sem] theorem e59 {s t:TypeId} {k:IntKind} {x:X}:evS G N (some d) (.conv s t (.int k) x) st=b11 st d (cvI k (rdv st x)):=by
 simp only [evS,a04,Ev.run_bind,a42,Option.bind]
 cases rdv st x<;>try rfl
 rename_i v; cases v<;>rfl
def mmO (mx:Bool) (u v:AV):Option AV:=match u,v with
 | .lit (.int k a),.lit (.int k' b)=>if k=k' then some (.lit (.int k (if mx then (if b > a then b else a) else (if b < a then b else a)))) else none
 | _,_=>none
@[go_sem] theorem f3f {mx:Bool} {k:IntKind} {a b:Int}:mmO mx (.lit (.int k a)) (.lit (.int k b))=some (.lit (.int k (if mx then (if b > a then b else a) else (if b < a then b else a)))):=by simp [mmO]
@[go_sem] theorem f74 {mx:Bool} {ts:List TypeId} {x y:X}:evS G N (some d) (.mm mx ts [x,y]) st=b11 st d (mmO mx (rdv st x) (rdv st y)):=by
 simp only [evS,a04,Ev.run_bind,a42,Option.bind]
 cases rdv st x<;>try rfl
 simp only [a42]
 cases rdv st y
 case lit.lit u v=>
  cases u<;>try rfl
  rename_i k a
  cases v<;>try rfl
  rename_i k' b
  simp only [mmO,Ev.run_bind,a0f,Option.bind]
  by_cases h:k=k'
  ·simp only [h,decide_true,if_true]; rfl
  ·simp only [h,decide_false,Bool.false_eq_true,if_false]; rfl
 all_goals first | rfl | (rename_i u; cases u<;>rfl) | (rename_i u _; cases u<;>rfl) | (rename_i u _ _; cases u<;>rfl) | (rename_i u _ _ _; cases u<;>rfl) | (rename_i u _ _ _ _; cases u<;>rfl) | (rename_i u _ _ _ _ _; cases u<;>rfl)
def b6r (st:St):List X->Option (List AV)
 | []=>some []
 | x::xs=>match rdv st x with
  | .var _=>match x with
   | .t t=>(b6r st xs).map fun ks=> .ref t [] 0 (st.ep t)::ks
   | _=>none
  | .own _ _ _=>none
  | .dead=>none
  | .agg _=>none
  | .tup _=>none
  | .ifc _ _=>none
  | .bor _ _ _ _ _=>none
  | .mp _ _=>none
  | .loan _=>none
  | k=>(b6r st xs).map fun ks=>k::ks
theorem a7r:∀ (xs:List X),(b1j xs).run st=(b6r st xs).map fun ks=>(ks,st)
 | []=>rfl
 | x::xs=>by
  have ih:=a7r xs
  simp only [b1j,Ev.run_bind,a0t,Option.bind,b6r]
  cases hv:rdv st x<;>try (first | rfl | (simp only [Ev.run_bind,ih,Option.bind]; cases b6r st xs<;>rfl))
  cases x<;>try rfl
  simp only [b1i,Ev.run,Ev.run_bind,ih,Option.bind,rde]
  cases b6r st xs<;>rfl
def c91 (x:X) (v:AV) (st:St) (r:Option (List AV)):Option (List AV):=match v with
  | .var _=>match x with
   | .t t=>r.map fun ks=> .ref t [] 0 (st.ep t)::ks
   | _=>none
  | .own _ _ _=>none
  | .dead=>none
  | .agg _=>none
  | .tup _=>none
  | .ifc _ _=>none
  | .bor _ _ _ _ _=>none
  | .mp _ _=>none
  | .loan _=>none
  | k=>r.map fun ks=>k::ks
@[go_sem] theorem e5q:b6r st []=some []:=(rfl)
@[go_sem] theorem d8k {x:X} {xs:List X}:b6r st (x::xs)=c91 x (rdv st x) st (b6r st xs):=by
 simp only [b6r,c91]
@[go_sem] theorem e5p {t:Nat} {ks l:List AV}:c91 (.t t) (.var ks) st (some l)=some (.ref t [] 0 (st.ep t)::l):=(rfl)
@[go_sem] theorem e5n {x:X} {v:Value} {l:List AV}:c91 x (.lit v) st (some l)=some (.lit v::l):=(rfl)
@[go_sem] theorem e9z {x:X} {n:Nat} {ks l:List AV}:c91 x (.sl n ks) st (some l)=some (.sl n ks::l):=(rfl)
@[go_sem] theorem e9y {x:X} {n:Nat} {ks l:List AV}:c91 x (.ip ks n) st (some l)=some (.ip ks n::l):=(rfl)
@[go_sem] theorem e9x {x:X} {f:FuncId} {a b l:List AV}:c91 x (.fn f a b) st (some l)=some (.fn f a b::l):=(rfl)
@[go_sem] theorem e5o {x:X} {t:Nat} {q:List Nat} {o e:Nat} {l:List AV}:c91 x (.ref t q o e) st (some l)=some (.ref t q o e::l):=(rfl)
def f3c (f:FuncId) (a b:Option (List AV)):Option AV:=match a,b with
 | some a,some b=>some (.fn f a b)
 | _,_=>none
@[go_sem] theorem e1f {f:FuncId} {a b:List AV}:f3c f (some a) (some b)=some (.fn f a b):=(rfl)
@[go_sem] theorem f02 {f:FuncId} {fs cs:List X}:evS G N (some d) (.mkf f fs cs) st=b11 st d (f3c f (b6r st fs) (b6r st cs)):=by
 simp only [evS,a04,Ev.run_bind,a7r,Option.bind]
 cases b6r st fs with
 | none=>rfl
 | some a=>
  simp only [Option.map,a7r]
  cases b6r st cs<;>rfl
def c2w:List X->St->St
 | [],st=>st
 | .t n::xs,st=>c2w xs (match st.s n with
  | .var ks=>st.set n (frz (.var ks))
  | _=>st)
 | _::xs,st=>c2w xs st
def c8p (n:Nat) (v:AV) (st:St):St:=match v with
 | .var ks=>st.set n (.ip (a1m ks) 0)
 | _=>st
@[go_sem] theorem e6n {st:St}:c2w [] st=st:=(rfl)
@[congr] theorem d5i {n:Nat} {v v':AV} {st:St} (h:v=v'):c8p n v st=c8p n v' st:=by rw [h]
@[go_sem] theorem f79 {st:St} {n:Nat} {xs:List X}:c2w (.t n::xs) st=c2w xs (c8p n (st.s n) st):=by
 simp only [c2w,c8p]
 cases st.s n<;>simp [frz]
@[go_sem] theorem f78 {st:St} {v:Value} {xs:List X}:c2w (.c v::xs) st=c2w xs st:=(rfl)
@[go_sem] theorem e6l {n:Nat} {ks:List AV} {st:St}:c8p n (.var ks) st=st.set n (.ip (a1m ks) 0):=(rfl)
@[go_sem] theorem f1h {n o:Nat} {ks:List AV} {st:St}:c8p n (.ip ks o) st=st:=(rfl)
@[go_sem] theorem e6k {n:Nat} {v:Value} {st:St}:c8p n (.lit v) st=st:=(rfl)
@[go_sem] theorem f1i {n m:Nat} {ks:List AV} {st:St}:c8p n (.sl m ks) st=st:=(rfl)
@[go_sem] theorem f1g {n:Nat} {f:FuncId} {a b:List AV} {st:St}:c8p n (.fn f a b) st=st:=(rfl)
theorem a3q:∀ (xs:List X) (st:St),(a7h xs).run st=some ((),c2w xs st)
 | [],st=>rfl
 | x::xs,st=>by
  simp only [a7h,Ev.run_bind,a0t,Option.bind]
  cases x with
  | t n=>
   simp only [rdv,c2w]
   cases hv:st.s n<;>simp only [hv]<;>try exact a3q xs st
   simp only [b1i,Ev.run_bind,Ev.run,b13,Option.bind]
   exact a3q xs _
  | c v=>exact a3q xs st
  | nl sz=>exact a3q xs st
  | g n=>exact a3q xs st
  | f n=>exact a3q xs st
def f3e (st:St) (d:Nat) (f:FuncId) (fs cs:List X):Option St:=b11 st d (f3c f (b6r st fs) (b6r st cs))
@[go_sem] theorem f05 {f:FuncId} {fs cs:List X}:evS G N (some d) (.mkz f fs cs) st=f3e (c2w cs st) d f fs cs:=by
 simp only [evS,a04,Ev.run_bind,a3q,a7r,Option.bind,f3e]
 cases b6r (c2w cs st) fs with
 | none=>rfl
 | some a=>
  simp only [Option.map,a7r]
  cases b6r (c2w cs st) cs<;>rfl
attribute [go_sem] f3e
def f0t (G:GG) (b:BinOp) (tp:TypeId) (d:Option Nat) (u v:Value):Ev Unit:=match u,v with
  | .iface t1 (.pointer (some a)),.iface t2 (.pointer (some c))=>do
   a0k (t1==tp&&t2==tp&&(decide (a=c)||((G a.block).isSome&&(G c.block).isSome)))
   match b with
   | .eql=>setD d (.lit (.bool (decide (a=c))))
   | .neq=>setD d (.lit (.bool (!(decide (a=c)))))
   | _=> .fail
  | _,_=> .fail
def d9c (G:GG) (b:BinOp) (tp:TypeId) (st:St) (d:Nat) (u v:Option Value):Option St:=match u,v with
 | some u,some v=>((f0t G b tp (some d) u v).run st).map (·.2)
 | _,_=>none
@[congr] theorem d5a {b:BinOp} {tp:TypeId} {u v u' v':Option Value} (h:u=u') (h2:v=v'):d9c G b tp st d u v=d9c G b tp st d u' v':=by rw [h,h2]
def e9t (b:BinOp) (c:Bool):Option AV:=match b with
 | .eql=>some (.lit (.bool c))
 | .neq=>some (.lit (.bool (!c)))
 | _=>none
@[go_sem] theorem e5f {c:Bool}:e9t .eql c=some (.lit (.bool c)):=(rfl)
@[go_sem] theorem e5g {c:Bool}:e9t .neq c=some (.lit (.bool !c)):=(rfl)
@[go_sem] theorem e58 {b:BinOp} {tp t1 t2:TypeId} {a c:Addr}:d9c G b tp st d (some (.iface t1 (.pointer (some a)))) (some (.iface t2 (.pointer (some c))))=gO (t1=tp/\t2=tp/\(a=c\/((G a.block).isSome=true/\(G c.block).isSome=true))) (b11 st d (e9t b (decide (a=c)))):=by
 simp only [d9c,f0t,gO,Ev.run_bind,a0f,Option.bind]
 by_cases h:t1=tp/\t2=tp/\(a=c\/((G a.block).isSome=true/\(G c.block).isSome=true))
 ·have:(t1==tp&&t2==tp&&(decide (a=c)||((G a.block).isSome&&(G c.block).isSome)))=true:=by
   simp only [Bool.and_eq_true,Bool.or_eq_true,beq_iff_eq,decide_eq_true_eq]; exact ⟨⟨h.1,h.2.1⟩,h.2.2⟩
  rw [if_pos h]
  simp only [this,if_true]
  cases b<;>rfl
 ·have:(t1==tp&&t2==tp&&(decide (a=c)||((G a.block).isSome&&(G c.block).isSome)))=false:=by
   rw [Bool.eq_false_iff]; intro hh
   simp only [Bool.and_eq_true,Bool.or_eq_true,beq_iff_eq,decide_eq_true_eq] at hh
   exact h ⟨hh.1.1,hh.1.2,hh.2⟩
  rw [if_neg h]
  simp only [this,Bool.false_eq_true,if_false]; rfl
@[go_sem] theorem f0x {b:BinOp} {T tp te:TypeId} {x y:X} {yT:TypeId}:evS G N (some d) (.eqs b T tp te x y yT) st=d9c G b tp st d (d5z (rdv st x)) (d5z (rdv st y)):=by
 have e:a04 G N (some d) (.eqs b T tp te x y yT)=(b6s x >>=fun u=>b6s y >>=fun v=>f0t G b tp (some d) u v):=rfl
 simp only [evS,e,Ev.run_bind,b8m,Option.bind]
 cases d5z (rdv st x) with
 | none=>rfl
 | some u=>
  simp only [Option.map,b8m]
  cases d5z (rdv st y)<;>rfl
end
section
variable {P:Program} {G:GG} {N:Nat} {st:St} {K:St->Prop}
def gvB (st:St) (N t:Nat) (q:List Nat) (lo n j:Nat) (k:Option AV):Option St:=match k with
 | some (.own sz n0 ks)=>gO (lo=0/\t < N/\n<=n0) (some ((st.set t (a0r (st.s t) q .dead)).put j (.own sz n (ks.take (n*sz)))))
 | _=>none
@[congr] theorem e0h {t:Nat} {q:List Nat} {lo n j:Nat} {k k':Option AV} (h:k=k'):gvB st N t q lo n j k=gvB st N t q lo n j k':=by rw [h]
@[go_sem] theorem f1z {t:Nat} {q:List Nat} {lo n j sz n0:Nat} {ks:List AV}:gvB st N t q lo n j (some (.own sz n0 ks))=gO (lo=0/\t < N/\n<=n0) (some ((st.set t (a0r (st.s t) q .dead)).put j (.own sz n (ks.take (n*sz))))):=(rfl)
def gvS (st:St) (N:Nat) (x:X) (j:Nat) (v:AV):Option St:=match v with
 | .dead=>none
 | .bor t q lo n e=>gvB st N t q lo n j (a2g st t q e)
 | v=>if noRef v then ((a3l x j v).run st).map (·.2) else none
@[congr] theorem e0i {x:X} {j:Nat} {v v':AV} (h:v=v'):gvS st N x j v=gvS st N x j v':=by rw [h]
theorem c59 (x:X) (j:Nat):((b96 N x j).run st).map (·.2)=gvS st N x j (rdv st x):=by
 simp only [b96,Ev.run_bind,a0t,Option.bind]
 cases hv:rdv st x
 case dead=>rfl
 case bor t q lo n e=>
  simp only [gvS,Ev.run_bind,a1l,Option.bind,a0f]
  by_cases he:e=st.ep t
  ·subst he
   simp only [a2g,if_true,beq_self_eq_true,Bool.true_and]
   cases hk:a0e (st.s t) q with
   | none=>
    simp only [gvB]
    generalize (lo==0&&decide (t < N))=b
    cases b
    ·rfl
    ·simp only [if_true,a0y,hk]; rfl
   | some k=>
    by_cases h1:lo=0
    ·by_cases h2:t < N
     ·simp only [h1,h2,beq_self_eq_true,decide_true,Bool.and_self,if_true,a0y,hk]
      cases k<;>try rfl
      rename_i sz n0 ks
      simp only [Option.map,gvB,gO,Ev.run_bind,a0f,Option.bind,h2,true_and]
      by_cases h3:n<=n0
      ·simp only [h3,decide_true,if_true]; rfl
      ·simp only [h3,decide_false,Bool.false_eq_true,if_false]
     ·simp only [h2,decide_false,Bool.and_false,Bool.false_eq_true,if_false]
      cases k<;>try rfl
      simp only [gvB,gO,h2,false_and,and_false,if_false]; rfl
    ·have:(lo==0)=false:=by simpa using h1
     simp only [this,Bool.false_and,Bool.false_eq_true,if_false]
     cases k<;>try rfl
     simp only [gvB,gO,h1,false_and,if_false]; rfl
  ·have:(e==st.ep t)=false:=by simpa using he
   simp only [this,Bool.false_and,Bool.false_eq_true,if_false,a2g,he]; rfl
 all_goals (simp only [gvS,Ev.run_bind,a0f,Option.bind]; generalize noRef _=b; cases b<;>rfl)
section
variable {j:Nat}
def d2z (b:Bool) (r:Option St):Option St:=if b then r else none
@[congr] theorem d6b {b b':Bool} {r:Option St} (h:b=b'):d2z b r=d2z b' r:=by rw [h]
@[go_sem] theorem f9j {r:Option St}:d2z true r=r:=(rfl)
@[go_sem] theorem f2b {x:X} {t:Nat} {q:List Nat} {lo n e:Nat}:gvS st N x j (.bor t q lo n e)=gvB st N t q lo n j (a2g st t q e):=(rfl)
@[go_sem] theorem f2d {x:X} {v:Value}:gvS st N x j (.lit v)=some (st.put j (.lit v)):=by cases x<;>rfl
@[go_sem] theorem f8q {x:X} {n:Nat} {ks:List AV}:gvS st N x j (.sl n ks)=some (st.put j (.sl n ks)):=by cases x<;>rfl
@[go_sem] theorem f8o {x:X} {n:Nat} {ks:List AV}:gvS st N x j (.ip ks n)=some (st.put j (.ip ks n)):=by cases x<;>rfl
@[go_sem] theorem f8n {x:X} {f:FuncId} {a b:List AV}:gvS st N x j (.fn f a b)=d2z (noRef (.fn f a b)) (some (st.put j (.fn f a b))):=by
 simp only [gvS,d2z]; generalize noRef _=r; cases r<;>cases x<;>rfl
@[go_sem] theorem f2e {t sz n:Nat} {ks:List AV}:gvS st N (.t t) j (.own sz n ks)=some ((st.put t .dead).put j (.own sz n ks)):=(rfl)
@[go_sem] theorem f8p {t sz n:Nat} {ks:List AV}:gvS st N (.nl t) j (.own sz n ks)=some (st.put j (.own sz n ks)):=(rfl)
@[go_sem] theorem f2g {t:Nat} {ks:List AV}:gvS st N (.t t) j (.var ks)=some ((st.put t .dead).put j (.var ks)):=(rfl)
@[go_sem] theorem f2a {t:Nat} {ks:List AV}:gvS st N (.t t) j (.agg ks)=iO (a0m ks) (some (st.put j (.agg ks))) (some ((st.put t .dead).put j (.agg ks))):=by
 by_cases h:a0m ks=true
 ·simp only [gvS,noRef,if_true,a3l,a0n,iO,h]; rfl
 ·simp only [gvS,noRef,if_true,a3l,a0n,iO,h]; rfl
@[go_sem] theorem f2f {t:Nat} {ks:List AV}:gvS st N (.t t) j (.tup ks)=iO (a0m ks) (some (st.put j (.tup ks))) (some ((st.put t .dead).put j (.tup ks))):=by
 by_cases h:a0m ks=true
 ·simp only [gvS,noRef,if_true,a3l,a0n,iO,h]; rfl
 ·simp only [gvS,noRef,if_true,a3l,a0n,iO,h]; rfl
@[go_sem] theorem f2c {t:Nat} {T:TypeId} {k:AV}:gvS st N (.t t) j (.ifc T k)=iO (a0n k) (some (st.put j (.ifc T k))) (some ((st.put t .dead).put j (.ifc T k))):=by
 by_cases h:a0n k=true
 ·simp only [gvS,noRef,if_true,a3l,a0n,iO,h]; rfl
 ·simp only [gvS,noRef,if_true,a3l,a0n,iO,h]; rfl
end
def psB (st:St) (N t:Nat) (q:List Nat) (lo n j:Nat) (k:Option AV):Option St:=match k with
 | some (.own sz n0 ks)=>gO (t < N/\lo+n<=n0) (some ((st.set t (a0r (st.s t) q (frz (.own sz n0 ks)))).put j (.sl n (((a1m ks).drop (lo*sz)).take (n*sz)))))
 | _=>none
@[congr] theorem e21 {t:Nat} {q:List Nat} {lo n j:Nat} {k k':Option AV} (h:k=k'):psB st N t q lo n j k=psB st N t q lo n j k':=by rw [h]
@[go_sem] theorem f4n {t:Nat} {q:List Nat} {lo n j sz n0:Nat} {ks:List AV}:psB st N t q lo n j (some (.own sz n0 ks))=gO (t < N/\lo+n<=n0) (some ((st.set t (a0r (st.s t) q (frz (.own sz n0 ks)))).put j (.sl n (((a1m ks).drop (lo*sz)).take (n*sz))))):=(rfl)
def psS (st:St) (N:Nat) (x:X) (j:Nat) (v:AV):Option St:=match v with
 | .dead=>none
 | .bor t q lo n e=>psB st N t q lo n j (a2g st t q e)
 | v=>if noRef v then ((a29 x j v).run st).map (·.2) else none
@[congr] theorem e22 {x:X} {j:Nat} {v v':AV} (h:v=v'):psS st N x j v=psS st N x j v':=by rw [h]
theorem c6b (x:X) (j:Nat):((b6f N x j).run st).map (·.2)=psS st N x j (rdv st x):=by
 simp only [b6f,Ev.run_bind,a0t,Option.bind]
 cases hv:rdv st x
 case dead=>rfl
 case bor t q lo n e=>
  simp only [psS,Ev.run_bind,a1l,Option.bind,a0f]
  by_cases he:e=st.ep t
  ·subst he
   simp only [a2g,if_true,beq_self_eq_true,Bool.true_and]
   cases hk:a0e (st.s t) q with
   | none=>
    simp only [psB]
    generalize (decide (t < N))=b
    cases b
    ·rfl
    ·simp only [if_true,a0y,hk]; rfl
   | some k=>
    by_cases h2:t < N
    ·simp only [h2,decide_true,if_true,a0y,hk]
     cases k<;>try rfl
     rename_i sz n0 ks
     simp only [Option.map,psB,gO,Ev.run_bind,a0f,Option.bind,h2,true_and]
     by_cases h3:lo+n<=n0
     ·simp only [h3,decide_true,if_true]; rfl
     ·simp only [h3,decide_false,Bool.false_eq_true,if_false]
    ·simp only [h2,decide_false,Bool.false_eq_true,if_false]
     cases k<;>try rfl
     simp only [psB,gO,h2,false_and,if_false]; rfl
  ·have:(e==st.ep t)=false:=by simpa using he
   simp only [this,Bool.false_and,Bool.false_eq_true,if_false,a2g,he]; rfl
 all_goals (simp only [psS,Ev.run_bind,a0f,Option.bind]; generalize noRef _=b; cases b<;>rfl)
section
variable {j:Nat}
@[go_sem] theorem f4p {x:X} {t:Nat} {q:List Nat} {lo n e:Nat}:psS st N x j (.bor t q lo n e)=psB st N t q lo n j (a2g st t q e):=(rfl)
@[go_sem] theorem f4r {x:X} {v:Value}:psS st N x j (.lit v)=some (st.put j (.lit v)):=by cases x<;>rfl
@[go_sem] theorem f9u {x:X} {n:Nat} {ks:List AV}:psS st N x j (.sl n ks)=some (st.put j (.sl n ks)):=by cases x<;>rfl
@[go_sem] theorem f9s {x:X} {n:Nat} {ks:List AV}:psS st N x j (.ip ks n)=some (st.put j (.ip ks n)):=by cases x<;>rfl
@[go_sem] theorem f9r {x:X} {f:FuncId} {a b:List AV}:psS st N x j (.fn f a b)=d2z (noRef (.fn f a b)) (some (st.put j (.fn f a b))):=by
 simp only [psS,d2z]; generalize noRef _=r; cases r<;>cases x<;>rfl
@[go_sem] theorem f4s {t sz n:Nat} {ks:List AV}:psS st N (.t t) j (.own sz n ks)=some ((st.set t (.sl n (a1m ks))).put j (.sl n (a1m ks))):=(rfl)
@[go_sem] theorem f9t {t sz n:Nat} {ks:List AV}:psS st N (.nl t) j (.own sz n ks)=some (st.put j (.sl n (a1m ks))):=(rfl)
@[go_sem] theorem f4u {t:Nat} {ks:List AV}:psS st N (.t t) j (.var ks)=some ((st.set t (.ip (a1m ks) 0)).put j (.ip (a1m ks) 0)):=(rfl)
@[go_sem] theorem f4o {t:Nat} {ks:List AV}:psS st N (.t t) j (.agg ks)=iO (a0m ks) (some (st.put j (.agg ks))) (some ((st.set t (.agg (a1m ks))).put j (.agg (a1m ks)))):=by
 by_cases h:a0m ks=true
 ·simp only [psS,noRef,if_true,a29,a0n,iO,h]; rfl
 ·simp only [psS,noRef,if_true,a29,a0n,iO,h]; rfl
@[go_sem] theorem f4t {t:Nat} {ks:List AV}:psS st N (.t t) j (.tup ks)=iO (a0m ks) (some (st.put j (.tup ks))) (some ((st.set t (.tup (a1m ks))).put j (.tup (a1m ks)))):=by
 by_cases h:a0m ks=true
 ·simp only [psS,noRef,if_true,a29,a0n,iO,h]; rfl
 ·simp only [psS,noRef,if_true,a29,a0n,iO,h]; rfl
@[go_sem] theorem f4q {t:Nat} {T:TypeId} {k:AV}:psS st N (.t t) j (.ifc T k)=iO (a0n k) (some (st.put j (.ifc T k))) (some ((st.set t (.ifc T (frz k))).put j (.ifc T (frz k)))):=by
 by_cases h:a0n k=true
 ·simp only [psS,noRef,if_true,a29,a0n,iO,h]; rfl
 ·simp only [psS,noRef,if_true,a29,a0n,iO,h]; rfl
end
def gvs (N:Nat):Nat->List (Bool×X)->Option St->Option St
 | _,_,none=>none
 | _,[],some st=>some st
 | j,(true,x)::xs,some st=>gvs N (j+1) xs (gvS st N x j (rdv st x))
 | j,(false,_)::xs,some st=>gvs N (j+1) xs (some st)
def pss (N:Nat):Nat->List (Bool×X)->Option St->Option St
 | _,_,none=>none
 | _,[],some st=>some st
 | j,(false,x)::xs,some st=>pss N (j+1) xs (psS st N x j (rdv st x))
 | j,(true,_)::xs,some st=>pss N (j+1) xs (some st)
@[congr] theorem e0j {j:Nat} {xs:List (Bool×X)} {o o':Option St} (h:o=o'):gvs N j xs o=gvs N j xs o':=by rw [h]
@[congr] theorem e23 {j:Nat} {xs:List (Bool×X)} {o o':Option St} (h:o=o'):pss N j xs o=pss N j xs o':=by rw [h]
@[go_sem] theorem f2h {j:Nat}:gvs N j [] (some st)=some st:=(rfl)
@[go_sem] theorem g0m {j:Nat} {x:X} {xs:List (Bool×X)}:gvs N j ((true,x)::xs) (some st)=gvs N (j+1) xs (gvS st N x j (rdv st x)):=(rfl)
@[go_sem] theorem g0l {j:Nat} {x:X} {xs:List (Bool×X)}:gvs N j ((false,x)::xs) (some st)=gvs N (j+1) xs (some st):=(rfl)
@[go_sem] theorem f4v {j:Nat}:pss N j [] (some st)=some st:=(rfl)
@[go_sem] theorem g0x {j:Nat} {x:X} {xs:List (Bool×X)}:pss N j ((false,x)::xs) (some st)=pss N (j+1) xs (psS st N x j (rdv st x)):=(rfl)
@[go_sem] theorem g0y {j:Nat} {x:X} {xs:List (Bool×X)}:pss N j ((true,x)::xs) (some st)=pss N (j+1) xs (some st):=(rfl)
theorem c8s {j:Nat} {xs:List (Bool×X)}:gvs N j xs none=none:=by cases xs<;>rfl
theorem c9d {j:Nat} {xs:List (Bool×X)}:pss N j xs none=none:=by cases xs<;>rfl
theorem a6m:∀ (xs:List (Bool×X)) (j:Nat) (st:St),((a4w N j xs).run st).map (·.2)=gvs N j xs (some st)
 | [],j,st=>rfl
 | (b,x)::xs,j,st=>by
  simp only [a4w,Ev.run_bind,Option.bind]
  cases b with
  | true=>
   have h:=c59 (N:=N) (st:=st) x j
   simp only [if_true,gvs]
   rw [<-h]
   cases (b96 N x j).run st with
   | none=>simp [c8s]
   | some r=>exact a6m xs (j+1) r.2
  | false=>
   simp only [Bool.false_eq_true,if_false,Ev.run_pure]
   exact a6m xs (j+1) st
theorem a3r:∀ (xs:List (Bool×X)) (j:Nat) (st:St),((a3g N j xs).run st).map (·.2)=pss N j xs (some st)
 | [],j,st=>rfl
 | (b,x)::xs,j,st=>by
  simp only [a3g,Ev.run_bind,Option.bind]
  cases b with
  | false=>
   have h:=c6b (N:=N) (st:=st) x j
   simp only [Bool.false_eq_true,if_false,pss]
   rw [<-h]
   cases (b6f N x j).run st with
   | none=>simp [c9d]
   | some r=>exact a3r xs (j+1) r.2
  | true=>
   simp only [if_true,Ev.run_pure]
   exact a3r xs (j+1) st
def a85 (st:St) (N:Nat) (d:Option Nat) (res:AV):St:=match d with
 | some d=>(st.clear N).thru N d res
 | none=>st.clear N
@[go_sem] theorem d9u {d:Nat} {res:AV}:a85 st N (some d) res=(st.clear N).thru N d res:=(rfl)
@[go_sem] theorem d9t {res:AV}:a85 st N none res=st.clear N:=(rfl)
def cal (P:Program) (G:GG) (N:Nat) (d:Option Nat) (f:FuncId) (pre:List AV) (st1 st2:St) (K:St->Prop):Prop:=
 ∃ res,ACalls P G f pre res/\noRef res=true/\K (a85 (if a0w res then st1 else st2) N d res)
def c7m (P:Program) (G:GG) (N:Nat) (d:Option Nat) (f:FuncId) (n:Nat) (o1 o2:Option St) (K:St->Prop):Prop:=match o1,o2 with
 | some st1,some st2=>cal P G N d f (a4r N n st2) st1 st2 K
 | _,_=>False
def d1e (P:Program) (G:GG) (N:Nat) (d:Option Nat) (f:FuncId) (args:List (Bool×X)) (o1:Option St) (K:St->Prop):Prop:=c7m P G N d f args.length o1 (pss N (N+2) args o1) K
@[congr] theorem d4g {d:Option Nat} {f:FuncId} {args:List (Bool×X)} {o1 o1':Option St} (h:o1=o1'):d1e P G N d f args o1 K=d1e P G N d f args o1' K:=by rw [h]
@[congr] theorem d4h {d:Option Nat} {f:FuncId} {n:Nat} {o1 o2 o2':Option St} (h:o2=o2'):c7m P G N d f n o1 o2 K=c7m P G N d f n o1 o2' K:=by rw [h]
@[congr] theorem d8j {d:Option Nat} {f:FuncId} {pre pre':List AV} {st1 st2:St} (h:pre=pre'):cal P G N d f pre st1 st2 K=cal P G N d f pre' st1 st2 K:=by rw [h]
@[go_sem] theorem d8h {d:Option Nat} {f:FuncId} {args:List (Bool×X)}:d1e P G N d f args (some st) K=c7m P G N d f args.length (some st) (pss N (N+2) args (some st)) K:=(rfl)
@[go_sem] theorem d8i {d:Option Nat} {f:FuncId} {n:Nat} {st2:St}:c7m P G N d f n (some st) (some st2) K=cal P G N d f (a4r N n st2) st st2 K:=(rfl)
@[go_sem] theorem d7i {d:Option Nat} {f:FuncId} {args:List (Bool×X)} {tys:List TypeId} {rest:List AO}:a84 P G N (⟨d,.call f args tys,none⟩::rest) K st=d1e P G N d f args (gvs N (N+2) args (some st)) (a84 P G N rest K):=by
 simp only [a84,a8n,b3p,d0v]
 rw [<-a6m]
 apply propext
 constructor
 ·rintro ⟨st1,st2,res,st3,h1,h2,h3,h4,h5,h6⟩
  have e2:=a3r (N:=N) args (N+2) st1
  rw [h2] at e2
  simp only [h1,Option.map,d1e,c7m,<-e2]
  refine ⟨res,h3,h4,?_⟩
  have:a85 (if a0w res then st1 else st2) N d res=st3:=by
   cases d with
   | none=>
    simp only [b8y,Ev.run_pure,Option.some.injEq,Prod.mk.injEq,true_and] at h5
    exact h5
   | some d=>
    simp only [b8y,a6n,Option.some.injEq,Prod.mk.injEq,true_and] at h5
    exact h5
  rw [this]; exact h6
 ·cases h1:(a4w N (N+2) args).run st with
  | none=>intro h; simp only [Option.map,d1e,c7m] at h
  | some r=>
   obtain ⟨_,st1⟩:=r
   simp only [Option.map,d1e]
   rw [<-a3r]
   cases h2:(a3g N (N+2) args).run st1 with
   | none=>intro h; simp only [Option.map,c7m] at h
   | some r2=>
    obtain ⟨_,st2⟩:=r2
    simp only [Option.map,c7m]
    rintro ⟨res,h3,h4,h5⟩
    refine ⟨st1,st2,res,_,rfl,h2,h3,h4,?_,h5⟩
    cases d<;>rfl
@[go_sem] theorem f4g:a4r N 0 st=[]:=(rfl)
@[go_sem] theorem f4h:a4r N 1 st=[st.s (N+2+0)]:=(rfl)
@[go_sem] theorem f4i:a4r N 2 st=[st.s (N+2+0),st.s (N+2+1)]:=(rfl)
@[go_sem] theorem f4j:a4r N 3 st=[st.s (N+2+0),st.s (N+2+1),st.s (N+2+2)]:=(rfl)
@[go_sem] theorem f4k:a4r N 4 st=[st.s (N+2+0),st.s (N+2+1),st.s (N+2+2),st.s (N+2+3)]:=(rfl)
@[go_sem] theorem f4l:a4r N 5 st=[st.s (N+2+0),st.s (N+2+1),st.s (N+2+2),st.s (N+2+3),st.s (N+2+4)]:=(rfl)
@[go_sem] theorem f4m:a4r N 6 st=[st.s (N+2+0),st.s (N+2+1),st.s (N+2+2),st.s (N+2+3),st.s (N+2+4),st.s (N+2+5)]:=(rfl)
theorem a0g {d:Option Nat} {f:FuncId} {pre:List AV} {st1 st2:St} {res:AV} (hA:ACalls P G f pre res) (hn:noRef res=true) (hi:a0w res=true) (h:K (a85 st1 N d res)):cal P G N d f pre st1 st2 K:=⟨res,hA,hn,by rw [hi]; exact h⟩
theorem d1f {d:Option Nat} {f:FuncId} {pre:List AV} {st1 st2:St} {res:AV} (hA:ACalls P G f pre res) (hn:noRef res=true) (hi:a0w res=false) (h:K (a85 st2 N d res)):cal P G N d f pre st1 st2 K:=⟨res,hA,hn,by rw [hi]; exact h⟩
theorem a8o {d:Option Nat} {f:FuncId} {pre:List AV} {st1 st2:St} {res:AV} (hA:ACalls P G f pre res) (hn:noRef res=true) (h:K (a85 st1 N d res)) (h2:K (a85 st2 N d res)):cal P G N d f pre st1 st2 K:=⟨res,hA,hn,by split; exact h; exact h2⟩
inductive RV where
 | tmp (t:Nat)
 | cell (t:Nat)
 | cells (t sz:Nat)
def RV.ok (P:Program) (N:Nat):RV->ResultVar->Bool
 | .tmp t,.tmp t'=>t==t'&&decide (t < N)
 | .cell t,.cell t' T=>t==t'&&decide (t < N)&&b32 P T==some false
 | .cells t sz,.cell t' T=>t==t'&&decide (t < N)&&b32 P T==some true&&a78 P T sz
 | _,_=>false
def b8o (r:RV) (st:St):Option AV:=match r with
 | .tmp t=>if noRef (st.s t) then some (st.s t) else none
 | .cell t=>match st.s t with
  | .var [k]=>some k
  | _=>none
 | .cells t sz=>match st.s t with
  | .var ks=>gO (ks.length=sz) (some (.agg ks))
  | _=>none
theorem c00 {r:RV} {v:ResultVar} {k:AV} (h:r.ok P N v=true) (hk:b8o r st=some k):b1a P N st v=some k:=by
 cases r with
 | tmp t=>
  cases v<;>simp only [RV.ok,Bool.and_eq_true,beq_iff_eq,decide_eq_true_eq,Bool.false_eq_true] at h
  obtain ⟨rfl,h⟩:=h
  simp only [b8o] at hk
  simp only [b1a,h,decide_true,Bool.true_and]
  exact hk
 | cell t=>
  cases v<;>simp only [RV.ok,Bool.and_eq_true,beq_iff_eq,decide_eq_true_eq,Bool.false_eq_true] at h
  obtain ⟨⟨rfl,h1⟩,h2⟩:=h
  simp only [b8o] at hk
  simp only [b1a,h1,if_true]
  split at hk
  ·rename_i k' hs
   rw [hs]
   simp only [h2]
   exact hk
  ·cases hk
 | cells t sz=>
  cases v<;>simp only [RV.ok,Bool.and_eq_true,beq_iff_eq,decide_eq_true_eq,Bool.false_eq_true] at h
  obtain ⟨⟨⟨rfl,h1⟩,h2⟩,h3⟩:=h
  simp only [b8o] at hk
  simp only [b1a,h1,if_true]
  split at hk
  ·rename_i ks hs
   simp only [gO] at hk
   split at hk
   ·rename_i hl
    rw [hs]
    simp only [h2,hl,h3,if_true]
    exact hk
   ·cases hk
  ·cases hk
def rvL:List RV->St->Option (List AV)
 | [],_=>some []
 | r::rs,st=>match b8o r st,rvL rs st with
  | some k,some ks=>some (k::ks)
  | _,_=>none
def b8p (P:Program) (N:Nat):List RV->List ResultVar->Bool
 | [],[]=>true
 | r::rs,v::vs=>r.ok P N v&&b8p P N rs vs
 | _,_=>false
theorem b25:∀ {rs:List RV} {vs:List ResultVar} {ks:List AV},b8p P N rs vs=true->rvL rs st=some ks->d0m P N st vs=some ks
 | [],[],ks,_,hk=>hk
 | [],_::_,ks,h,_=>by cases h
 | _::_,[],ks,h,_=>by cases h
 | r::rs,v::vs,ks,h,hk=>by
  simp only [b8p,Bool.and_eq_true] at h
  simp only [rvL] at hk
  split at hk
  ·rename_i k ks' h1 h2
   simp only [d0m,c00 h.1 h1,b25 h.2 h2]
   exact hk
  ·cases hk
def d6z (rs:List RV) (st:St):Option AV:=match rvL rs st with
 | some [k]=>some k
 | some ks=>some (.tup ks)
 | none=>none
def d1y (rs:List RV) (res:AV):Exit->St->Prop
 | .normal,st | .ret,st=>d6z rs st=some res
 | _,_=>False
@[congr] theorem d47 {rs:List RV} {res:AV} {e:Exit} {st':St} (h2:st=st'):d1y rs res e st=d1y rs res e st':=by rw [h2]
def rv1 (r:RV) (v:AV):Option AV:=match r with
 | .tmp t=>if noRef v then some v else none
 | .cell t=>match v with
  | .var [k]=>some k
  | _=>none
 | .cells t sz=>match v with
  | .var ks=>gO (ks.length=sz) (some (.agg ks))
  | _=>none
def avs (a:Option AV) (l:Option (List AV)):Option (List AV):=match a,l with
 | some k,some ks=>some (k::ks)
 | _,_=>none
def d3v (l:Option (List AV)):Option AV:=match l with
 | some [k]=>some k
 | some ks=>some (.tup ks)
 | none=>none
@[go_sem] theorem g0b {k:AV}:d3v (some [k])=some k:=(rfl)
@[go_sem] theorem g0a:d3v (some [])=some (.tup []):=(rfl)
@[go_sem] theorem g0c {a b:AV} {ks:List AV}:d3v (some (a::b::ks))=some (.tup (a::b::ks)):=(rfl)
@[go_sem] theorem e5e {k:AV} {ks:List AV}:avs (some k) (some ks)=some (k::ks):=(rfl)
@[go_sem] theorem f5c {t:Nat} {v:AV}:rv1 (.tmp t) v=if noRef v then some v else none:=(rfl)
@[go_sem] theorem e81 {t:Nat} {k:AV}:rv1 (.cell t) (.var [k])=some k:=(rfl)
@[go_sem] theorem e3y {t sz:Nat} {ks:List AV}:rv1 (.cells t sz) (.var ks)=gO (ks.length=sz) (some (.agg ks)):=(rfl)
@[go_sem] theorem f5d:rvL [] st=some []:=(rfl)
@[go_sem] theorem f5e {t:Nat} {rs:List RV}:rvL (.tmp t::rs) st=avs (rv1 (.tmp t) (st.s t)) (rvL rs st):=by
 simp only [rvL,avs,b8o,rv1]
@[go_sem] theorem e82 {t:Nat} {rs:List RV}:rvL (.cell t::rs) st=avs (rv1 (.cell t) (st.s t)) (rvL rs st):=by
 simp only [rvL,avs,b8o,rv1]
@[go_sem] theorem e3z {t sz:Nat} {rs:List RV}:rvL (.cells t sz::rs) st=avs (rv1 (.cells t sz) (st.s t)) (rvL rs st):=by
 simp only [rvL,avs,b8o,rv1]
@[go_sem] theorem f71 {rs:List RV} {res:AV}:d1y rs res .normal st=(d3v (rvL rs st)=some res):=(rfl)
@[go_sem] theorem f72 {rs:List RV} {res:AV}:d1y rs res .ret st=(d3v (rvL rs st)=some res):=(rfl)
theorem c2r {rs:List RV} {vs:List ResultVar} {res:AV} (h:b8p P N rs vs=true):∀ e st,d1y rs res e st->d45 P N vs res e st:=by
 intro e st hq
 have key:d6z rs st=some res->b2z P N st vs=some res:=by
  intro hk
  unfold d6z at hk
  cases hl:rvL rs st with
  | none=>rw [hl] at hk; cases hk
  | some ks=>
   rw [hl] at hk
   simp only [b2z,b25 h hl]
   exact hk
 cases e<;>first | exact key hq | exact hq
end
theorem ACalls.of_walk {P:Program} {G:GG} {f:FuncId} {fn:Func} {c:Code} {N:Nat} {vs:List ResultVar} {rs:List RV} {ic:IC} (hord:P.follows .mixedOrders=true) (hf:P.funcs[f]? =some fn) (hb:fn.body=some c) (hN:fn.ntmps=N) (hrs:fn.results.toList=vs) (hnd:(vs.map rvT).Nodup)
  (he:a76 c=ic.ec) (hok:ic.ok P N=true) (hr:b8p P N rs vs=true) {pre:List AV} {res:AV} (hsz:pre.length<=N) (h:AW P G N ic (d1y rs res) (St.init pre)):ACalls P G f pre res:=
 b3q hf hb hN hrs hnd hsz ((c08 hord ic c _ _ he hok (IC.pin_nil ic) h).mono (c2r hr))
section
variable {k:IntKind} {a b:Int}
theorem a3x {b:BinOp} {k:IntKind} {x y:Int} {v:Value} (h:a1y b (.int k x) (.int k y)=some v) {kd:Nat} (hk:kd=0):a3c b kd (.lit (.int k x)) (.lit (.int k y))=some (.lit v):=by
 subst hk; simp [a3c,c23,h]
theorem d02:a1y .add (.int k a) (.int k b)=some (.int k (k.wrap (a+b))):=by simp [a1y,Op.intArith]; rfl
theorem d1d:a1y .sub (.int k a) (.int k b)=some (.int k (k.wrap (a - b))):=by simp [a1y,Op.intArith]; rfl
theorem d08:a1y .mul (.int k a) (.int k b)=some (.int k (k.wrap (a*b))):=by simp [a1y,Op.intArith]; rfl
theorem d03:a1y .eql (.int k a) (.int k b)=some (.bool (a==b)):=by simp [a1y,Op.intCmp]; rfl
theorem d09:a1y .neq (.int k a) (.int k b)=some (.bool (a != b)):=by simp [a1y,Op.intCmp]; rfl
theorem d07:a1y .lss (.int k a) (.int k b)=some (.bool (decide (a < b))):=by simp [a1y,Op.intCmp]; rfl
theorem d06:a1y .leq (.int k a) (.int k b)=some (.bool (decide (a<=b))):=by simp [a1y,Op.intCmp]; rfl
theorem d05:a1y .gtr (.int k a) (.int k b)=some (.bool (decide (a > b))):=by simp [a1y,Op.intCmp]; rfl
theorem d04:a1y .geq (.int k a) (.int k b)=some (.bool (decide (a ≥ b))):=by simp [a1y,Op.intCmp]; rfl
@[go_sem] theorem f6m:a3c .add 0 (.lit (.int k a)) (.lit (.int k b))=some (.lit (.int k (k.wrap (a+b)))):=a3x d02 rfl
@[go_sem] theorem f6x:a3c .sub 0 (.lit (.int k a)) (.lit (.int k b))=some (.lit (.int k (k.wrap (a - b)))):=a3x d1d rfl
@[go_sem] theorem f6s:a3c .mul 0 (.lit (.int k a)) (.lit (.int k b))=some (.lit (.int k (k.wrap (a*b)))):=a3x d08 rfl
@[go_sem] theorem f6n:a3c .eql 0 (.lit (.int k a)) (.lit (.int k b))=some (.lit (.bool (decide (a=b)))):=by
 rw [a3x d03 rfl]; simp only [Option.some.injEq,AV.lit.injEq,Value.bool.injEq]; by_cases h:a=b<;>simp [h]
@[go_sem] theorem f6t:a3c .neq 0 (.lit (.int k a)) (.lit (.int k b))=some (.lit (.bool (!decide (a=b)))):=by
 rw [a3x d09 rfl]; simp only [Option.some.injEq,AV.lit.injEq,Value.bool.injEq]; by_cases h:a=b<;>simp [h]
@[go_sem] theorem f6r:a3c .lss 0 (.lit (.int k a)) (.lit (.int k b))=some (.lit (.bool (decide (a < b)))):=a3x d07 rfl
@[go_sem] theorem f6q:a3c .leq 0 (.lit (.int k a)) (.lit (.int k b))=some (.lit (.bool (decide (a<=b)))):=a3x d06 rfl
@[go_sem] theorem f6p:a3c .gtr 0 (.lit (.int k a)) (.lit (.int k b))=some (.lit (.bool (decide (b < a)))):=a3x d05 rfl
@[go_sem] theorem f6o:a3c .geq 0 (.lit (.int k a)) (.lit (.int k b))=some (.lit (.bool (decide (b<=a)))):=a3x d04 rfl
end
section
variable {a b:Bool}
@[go_sem] theorem e9u:a3c .eql 1 (.lit (.bool a)) (.lit (.bool b))=some (.lit (.bool (decide (a=b)))):=by cases a<;>cases b<;>rfl
@[go_sem] theorem e9v:a3c .neq 1 (.lit (.bool a)) (.lit (.bool b))=some (.lit (.bool (!decide (a=b)))):=by cases a<;>cases b<;>rfl
@[go_sem] theorem d7x:a3c .eql 2 (.lit .nilIface) (.lit .nilIface)=some (.lit (.bool true)):=(rfl)
@[go_sem] theorem d70:a3c .neq 2 (.lit .nilIface) (.lit .nilIface)=some (.lit (.bool false)):=(rfl)
@[go_sem] theorem d7w {T:TypeId} {v:Value}:a3c .eql 2 (.lit (.iface T v)) (.lit .nilIface)=some (.lit (.bool false)):=(rfl)
@[go_sem] theorem d7z {T:TypeId} {v:Value}:a3c .neq 2 (.lit (.iface T v)) (.lit .nilIface)=some (.lit (.bool true)):=(rfl)
@[go_sem] theorem d7v {T:TypeId} {k:AV}:a3c .eql 2 (.ifc T k) (.lit .nilIface)=some (.lit (.bool false)):=(rfl)
@[go_sem] theorem d7y {T:TypeId} {k:AV}:a3c .neq 2 (.ifc T k) (.lit .nilIface)=some (.lit (.bool true)):=(rfl)
@[go_sem] theorem d72:a3c .eql 3 (.lit (.pointer none)) (.lit (.pointer none))=some (.lit (.bool true)):=(rfl)
@[go_sem] theorem d74:a3c .neq 3 (.lit (.pointer none)) (.lit (.pointer none))=some (.lit (.bool false)):=(rfl)
@[go_sem] theorem d71 {ks:List AV} {o:Nat}:a3c .eql 3 (.ip ks o) (.lit (.pointer none))=some (.lit (.bool false)):=(rfl)
@[go_sem] theorem d73 {ks:List AV} {o:Nat}:a3c .neq 3 (.ip ks o) (.lit (.pointer none))=some (.lit (.bool true)):=(rfl)
end
theorem f0b {p:Prop} [Decidable p] (h:p):decide p=true:=decide_eq_true h
theorem f0a {p:Prop} [Decidable p] (h:¬ p):decide p=false:=decide_eq_false h
theorem a7w {n:Int} (h: -9223372036854775808<=n/\n<=9223372036854775807):IntKind.i64.wrap n=n:=by rw [IntKind.wrap_i64]; omega
section
variable {α:Type} {f:α->AV}
theorem d2c [Inhabited α] {xs:List α} {i:Nat} (h:i < xs.length):(xs.map f)[i]? =some (f xs[i]!):=by
 simp [h]
theorem b0s {β:Type} {l:List β} {o:Nat} {v:β} (h:o < l.length):a0i l o [v]=l.set o v:=by
 simp only [a0i,List.length_cons,List.length_nil]
 rw [List.set_eq_take_append_cons_drop,if_pos h]
 simp
theorem c3q {xs:List α} {o:Nat} {v:AV} (h:o < xs.length):a0i (xs.map f) o [v]=(xs.map f).set o v:=b0s (by simpa using h)
theorem b6l {xs:List α} {o i:Nat} {v w:AV} (h:o < xs.length):a0i ((xs.map f).set i w) o [v]=((xs.map f).set i w).set o v:=b0s (by simpa using h)
@[go_sem] theorem d0s {xs:List α}:List.take xs.length (xs.map f)=xs.map f:=List.take_of_length_le (by simp)
end
@[go_sem] theorem d65 {α:Type} {l:List α} {o:Nat}:a0i l o []=l:=by simp [a0i]
@[go_sem] theorem e9a {α:Type} {a x:α} {l xs:List α}:a0i (a::l) 0 (x::xs)=x::a0i l 0 xs:=by simp [a0i]
@[go_sem] theorem e89 {α:Type} {a:α} {l xs:List α} {o:Nat}:a0i (a::l) (o+1) xs=a::a0i l o xs:=by
 simp [a0i,show o+1+xs.length=(o+xs.length)+1 by omega]
@[go_sem] theorem b0n {α:Type} {f:α->AV} {xs:List α} (h:∀ x,a0n (f x)=true):a0m (xs.map f)=true:=by
 induction xs with
 | nil=>rfl
 | cons x xs ih=>simp [a0m,h,ih]
@[go_sem] theorem b0l {α:Type} {f:α->AV} {xs:List α} (h:∀ x,a0w (f x)=true):a02 (xs.map f)=true:=by
 induction xs with
 | nil=>rfl
 | cons x xs ih=>simp [a02,h,ih]
@[go_sem] theorem e6m {α:Type} {f:α->AV} {xs:List α}:a1m (xs.map f)=xs.map fun x=>frz (f x):=by
 induction xs with
 | nil=>rfl
 | cons x xs ih=>simp [a1m,ih]
@[go_sem] theorem f9w {n:Nat} {z:AV}:a58 n [z]=List.replicate n z:=by
 simp only [a58]; induction n with
 | zero=>rfl
 | succ n ih=>simp [List.replicate_succ,ih]
def iG (v:Option AV):AV:=match v with
 | some v=>v
 | none=> .lit undef
@[go_sem] theorem f2k {v:AV}:iG (some v)=v:=(rfl)
@[go_sem] theorem f2j:iG none= .lit undef:=(rfl)
@[go_sem] theorem f5g {pre:List AV} {t:Nat}:(St.init pre).s t=iG pre[t]? :=by
 simp only [St.init,iG]; cases pre[t]? <;>rfl
@[go_sem] theorem e84 {pre:List AV} {t:Nat}:(St.init pre).ep t=0:=(rfl)
attribute [go_sem] List.getElem?_cons_zero List.getElem?_cons_succ List.getElem?_nil List.map_nil List.map_cons List.length_cons List.length_nil Nat.zero_add Nat.add_zero Nat.mul_one Nat.mul_zero Nat.zero_mul List.set_cons_zero List.set_cons_succ List.append_nil List.nil_append List.cons_append List.drop_zero List.take_zero List.drop_succ_cons List.take_succ_cons List.take_nil List.drop_nil Int.toNat_natCast List.length_map List.isEmpty_nil List.isEmpty_cons beq_self_eq_true Option.map_some Option.map_none decide_true decide_false and_true true_and Bool.true_or Bool.or_true Bool.false_or Bool.or_false List.take_length List.length_replicate List.map_map Function.comp_def Option.some.injEq
section
variable {P:Program} {G:GG} {N:Nat}
theorem a1c {Q:Exit->St->Prop} {st:St} {a:IC} (ι:Type) (I:ι->St->Prop) (μ:ι->Nat) (i0:ι) (h0:I i0 st) (h:∀ i st K,I i st->(∀ i' st',I i' st'->μ i' < μ i->K st')->AW P G N a (b0t K Q) st):AW P G N (.loop a) Q st:=
 ⟨ι,I,μ,i0,h0,fun i st hi=>h i st _ hi fun i' st' h1 h2=>⟨i',h1,h2⟩⟩
section
variable {kl:Nat->List Nat->Bool} {v:Value} {n sz o e t lo f T:Nat} {q:List Nat} {ks a b:List AV} {k:AV}
@[go_sem] theorem d5q:a05 kl .dead= .dead:=by simp only [a05]
@[go_sem] theorem e0s:a05 kl (.lit v)= .lit v:=by simp only [a05]
@[go_sem] theorem e60:a05 kl (.sl n ks)= .sl n ks:=by simp only [a05]
@[go_sem] theorem e6z:a05 kl (.ip ks o)= .ip ks o:=by simp only [a05]
@[go_sem] theorem e0t:a05 kl (.own sz n ks)= .own sz n ks:=by simp only [a05]
@[go_sem] theorem e0w:a05 kl (.var ks)= .var ks:=by simp only [a05]
@[go_sem] theorem e0p:a05 kl (.agg ks)= .agg ks:=by simp only [a05]
@[go_sem] theorem e0v:a05 kl (.tup ks)= .tup ks:=by simp only [a05]
@[go_sem] theorem e0r:a05 kl (.ifc T k)= .ifc T k:=by simp only [a05]
@[go_sem] theorem e6y:a05 kl (.fn f a b)= .fn f (b1m kl a) (b1m kl b):=by simp only [a05]
@[go_sem] theorem e0u:a05 kl (.ref t q o e)=if kl t q then .dead else .ref t q o e:=by simp only [a05]
@[go_sem] theorem e0q:a05 kl (.bor t q lo n e)=if kl t q then .dead else .bor t q lo n e:=by simp only [a05]
@[go_sem] theorem e2e:a0n (.lit v)=true:=by simp only [a0n]
@[go_sem] theorem e7w:a0n (.sl n ks)=true:=by simp only [a0n]
@[go_sem] theorem e7v:a0n (.ip ks o)=true:=by simp only [a0n]
@[go_sem] theorem e7u:a0n (.fn f a b)=true:=by simp only [a0n]
@[go_sem] theorem e2g:a0n (.ref t q o e)=true:=by simp only [a0n]
@[go_sem] theorem e2c:a0n (.bor t q lo n e)=true:=by simp only [a0n]
@[go_sem] theorem f1l:frz (.lit v)= .lit v:=by simp only [frz]
@[go_sem] theorem f8c:frz (.sl n ks)= .sl n ks:=by simp only [frz]
@[go_sem] theorem f8b:frz (.ip ks o)= .ip ks o:=by simp only [frz]
@[go_sem] theorem f8a:frz (.fn f a b)= .fn f a b:=by simp only [frz]
@[go_sem] theorem e14:a0w (.lit v)=true:=by simp only [a0w]
@[go_sem] theorem d56:a0w .dead=true:=by simp only [a0w]
@[go_sem] theorem e2f:a0n (.own sz n ks)=false:=by simp only [a0n]
@[go_sem] theorem e2i:a0n (.var ks)=false:=by simp only [a0n]
@[go_sem] theorem e2b:a0n (.agg ks)=a0m ks:=by simp only [a0n]
@[go_sem] theorem e2h:a0n (.tup ks)=a0m ks:=by simp only [a0n]
@[go_sem] theorem e2d:a0n (.ifc T k)=a0n k:=by simp only [a0n]
@[go_sem] theorem f1m:frz (.own sz n ks)= .sl n (a1m ks):=by simp only [frz]
@[go_sem] theorem f1o:frz (.var ks)= .ip (a1m ks) 0:=by simp only [frz]
@[go_sem] theorem f1j:frz (.agg ks)= .agg (a1m ks):=by simp only [frz]
@[go_sem] theorem f1n:frz (.tup ks)= .tup (a1m ks):=by simp only [frz]
@[go_sem] theorem f1k:frz (.ifc T k)= .ifc T (frz k):=by simp only [frz]
@[go_sem] theorem e7t:a0w (.sl n ks)=ks.isEmpty:=by simp only [a0w]
@[go_sem] theorem e7s:a0w (.ip ks o)=false:=by simp only [a0w]
@[go_sem] theorem e15:a0w (.own sz n ks)=a02 ks:=by simp only [a0w]
@[go_sem] theorem e17:a0w (.var ks)=a02 ks:=by simp only [a0w]
@[go_sem] theorem e12:a0w (.agg ks)=a02 ks:=by simp only [a0w]
@[go_sem] theorem e16:a0w (.tup ks)=a02 ks:=by simp only [a0w]
@[go_sem] theorem e13:a0w (.ifc T k)=a0w k:=by simp only [a0w]
@[go_sem] theorem e7r:a0w (.fn f a b)=(a02 a&&a02 b):=by simp only [a0w]
@[go_sem] theorem e2o:noRef (.ref t q o e)=false:=by simp only [noRef]
@[go_sem] theorem e2k:noRef (.bor t q lo n e)=false:=by simp only [noRef]
@[go_sem] theorem e7x:noRef (.fn f a b)=(a3w.noRefL a&&a3w.noRefL b):=by simp only [noRef]
@[go_sem] theorem e2m:noRef (.lit v)=true:=by simp only [noRef]
@[go_sem] theorem e7z:noRef (.sl n ks)=true:=by simp only [noRef]
@[go_sem] theorem e7y:noRef (.ip ks o)=true:=by simp only [noRef]
@[go_sem] theorem e2n:noRef (.own sz n ks)=true:=by simp only [noRef]
@[go_sem] theorem e2q:noRef (.var ks)=true:=by simp only [noRef]
@[go_sem] theorem e2j:noRef (.agg ks)=true:=by simp only [noRef]
@[go_sem] theorem e2p:noRef (.tup ks)=true:=by simp only [noRef]
@[go_sem] theorem e2l:noRef (.ifc T k)=true:=by simp only [noRef]
end
attribute [go_sem] f0b f0a e0e a7w d2c c3q b6l List.set_set List.map_append List.length_append List.length_set
end
theorem a32 {N:Nat} {α β:Type}:∀ (x:Ev α) (f:α->Ev β) (st:St) (sw:List Nat),(x >>=f).runF N st sw=(x.runF N st sw).bind fun r=>((f r.a).runF N r.st r.sw).map fun r2=>{ r2 with rd:=r.rd++r2.rd,wr:=r.wr++r2.wr }
 | .ret a,f,st,sw=>by
  show (f a).runF N st sw=_
  simp [Ev.runF]
 | .fail,f,st,sw=>rfl
 | .get t k,f,st,sw=>by
  show (Ev.get t fun v e=>k v e >>=f).runF N st sw=_
  simp only [Ev.runF]
  split
  ·rw [a32]
   cases (k (st.s t) (st.ep t)).runF N st sw with
   | none=>rfl
   | some r=>simp [Function.comp_def]
  ·rfl
 | .getv t k,f,st,sw=>by
  show (Ev.getv t fun v=>k v >>=f).runF N st sw=_
  simp only [Ev.runF]
  split
  ·rw [a32]
   cases (k (st.s t)).runF N st sw with
   | none=>rfl
   | some r=>simp [Function.comp_def]
  ·split
   ·rw [a32]
   ·rfl
 | .put t v k,f,st,sw=>by
  show (Ev.put t v (k >>=f)).runF N st sw=_
  simp only [Ev.runF]
  split
  ·rw [a32]
   cases k.runF N (st.put t v) sw with
   | none=>rfl
   | some r=>simp [Function.comp_def]
  ·rw [a32]
 | .upd t v k,f,st,sw=>by
  show (Ev.upd t v (k >>=f)).runF N st sw=_
  simp only [Ev.runF]
  split
  ·rw [a32]
   cases k.runF N (st.set t v) sw with
   | none=>rfl
   | some r=>simp [Function.comp_def]
  ·rw [a32]
 | .kill t q o m k,f,st,sw=>by
  show (Ev.kill t q o m (k >>=f)).runF N st sw=_
  simp only [Ev.runF]
  rw [a32]
  cases k.runF N (st.kill t q o m) sw with
  | none=>rfl
  | some r=>simp [Function.comp_def]
def a2r:AV->Option Nat
 | .ref t _ _ _=>some t
 | .bor t _ _ _ _=>some t
 | _=>none
def FpP (D:Nat->Prop) (N:Nat) {α:Type} (e:Ev α) (st:St) (sw:List Nat) (Post:α->St->List Nat->Prop):Prop:=
 ∀ a st',e.run st=some (a,st')->∃ rd wr sw',e.runF N st sw=some ⟨a,st',rd,wr,sw'⟩/\(∀ t∈rd,D t)/\(∀ t∈wr,D t)/\Post a st' sw'
section
variable {D:Nat->Prop} {N:Nat} {α β:Type} {st:St} {sw:List Nat} {Post:β->St->List Nat->Prop} {f:α->Ev β}
theorem FpP.bindM {x:Ev α} (h:FpP D N x st sw (fun a st' sw'=>FpP D N (f a) st' sw' Post)):FpP D N (x >>=f) st sw Post:=by
 intro a st' hr
 rw [Ev.run_bind] at hr
 cases hx:x.run st with
 | none=>rw [hx] at hr; cases hr
 | some r=>
  obtain ⟨b,st1⟩:=r
  rw [hx] at hr
  obtain ⟨rd,wr,sw1,h1,h2,h3,h4⟩:=h b st1 hx
  obtain ⟨rd2,wr2,sw2,g1,g2,g3,g4⟩:=h4 a st' hr
  refine ⟨rd++rd2,wr++wr2,sw2,?_,?_,?_,g4⟩
  ·rw [a32,h1]; simp only [Option.bind,g1,Option.map]
  ·intro t ht; rcases List.mem_append.1 ht with ht | ht; exact h2 t ht; exact g2 t ht
  ·intro t ht; rcases List.mem_append.1 ht with ht | ht; exact h3 t ht; exact g3 t ht
theorem FpP.mono {Q:α->St->List Nat->Prop} {P:α->St->List Nat->Prop} {x:Ev α} (h:FpP D N x st sw P) (hpq:∀ a st' sw',P a st' sw'->Q a st' sw'):FpP D N x st sw Q:=by
 intro a st' hr
 obtain ⟨rd,wr,sw1,h1,h2,h3,h4⟩:=h a st' hr
 exact ⟨rd,wr,sw1,h1,h2,h3,hpq _ _ _ h4⟩
theorem FpP.ret {a:α} {P:α->St->List Nat->Prop} (h:P a st sw):FpP D N (Ev.ret a) st sw P:=by
 intro b st' hr
 simp only [Ev.run,Option.some.injEq,Prod.mk.injEq] at hr
 obtain ⟨rfl,rfl⟩:=hr
 exact ⟨[],[],sw,rfl,by simp,by simp,h⟩
theorem FpP.fail {P:α->St->List Nat->Prop}:FpP D N (Ev.fail:Ev α) st sw P:=by
 intro b st' hr; cases hr
theorem FpP.get {t:Nat} {P:(AV×Nat)->St->List Nat->Prop} (hD:D t) (hN:t < N) (h:P (st.s t,st.ep t) st sw):FpP D N (b0g t) st sw P:=by
 intro b st' hr
 rw [a1l] at hr
 simp only [Option.some.injEq,Prod.mk.injEq] at hr
 obtain ⟨rfl,rfl⟩:=hr
 exact ⟨[t],[],sw,by simp [b0g,Ev.runF,hN],by simpa using hD,by simp,h⟩
theorem FpP.getv {t:Nat} {P:AV->St->List Nat->Prop} (hN:¬ t < N) (hs:t∈sw) (h:P (st.s t) st sw):FpP D N (b95 t) st sw P:=by
 intro b st' hr
 rw [a4s] at hr
 simp only [Option.some.injEq,Prod.mk.injEq] at hr
 obtain ⟨rfl,rfl⟩:=hr
 exact ⟨[],[],sw,by simp [b95,Ev.runF,hN,hs],by simp,by simp,h⟩
theorem FpP.put {t:Nat} {v:AV} {P:Unit->St->List Nat->Prop} (hD:D t) (hN:t < N) (h:P () (st.put t v) sw):FpP D N (a2z t v) st sw P:=by
 intro b st' hr
 rw [a5t] at hr
 simp only [Option.some.injEq,Prod.mk.injEq,true_and] at hr
 subst hr
 exact ⟨[],[t],sw,by simp [a2z,Ev.runF,hN],by simp,by simpa using hD,h⟩
theorem FpP.putN {t:Nat} {v:AV} {P:Unit->St->List Nat->Prop} (hN:¬ t < N) (h:P () (st.put t v) (t::sw)):FpP D N (a2z t v) st sw P:=by
 intro b st' hr
 rw [a5t] at hr
 simp only [Option.some.injEq,Prod.mk.injEq,true_and] at hr
 subst hr
 exact ⟨[],[],t::sw,by simp [a2z,Ev.runF,hN],by simp,by simp,h⟩
theorem FpP.upd {t:Nat} {v:AV} {P:Unit->St->List Nat->Prop} (hD:D t) (hN:t < N) (h:P () (st.set t v) sw):FpP D N (a95 t v) st sw P:=by
 intro b st' hr
 rw [b13] at hr
 simp only [Option.some.injEq,Prod.mk.injEq,true_and] at hr
 subst hr
 exact ⟨[],[t],sw,by simp [a95,Ev.runF,hN],by simp,by simpa using hD,h⟩
theorem FpP.kill {t o m:Nat} {q:List Nat} {P:Unit->St->List Nat->Prop} (hD:∀ u,u < N->D u) (h:P () (st.kill t q o m) sw):FpP D N (c2y t q o m) st sw P:=by
 intro a st' hr
 rw [b8l] at hr
 simp only [Option.some.injEq,Prod.mk.injEq,true_and] at hr
 subst hr
 exact ⟨List.range N++[],List.range N++[],sw,rfl,fun u hu=>hD u (by simpa using hu),fun u hu=>hD u (by simpa using hu),h⟩
theorem FpP.guard {b:Bool} {P:Unit->St->List Nat->Prop} (h:b=true->P () st sw):FpP D N (a0k b) st sw P:=by
 cases b
 ·exact FpP.fail
 ·exact FpP.ret (h rfl)
theorem FpP.opt {o:Option α} {P:α->St->List Nat->Prop} (h:∀ a,o=some a->P a st sw):FpP D N (a3p o) st sw P:=by
 cases o
 ·exact FpP.fail
 ·exact FpP.ret (h _ rfl)
structure XO (D:Nat->Prop) (N:Nat) (st:St) (x:X):Prop where
 t:∀ t,x= .t t->D t/\t < N
 b:∀ u,a2r (rdv st x)=some u->D u/\u < N
theorem FpP.read {x:X} {P:(AV×Nat)->St->List Nat->Prop} (hx:XO D N st x) (h:P (rdv st x,rde st x) st sw):FpP D N (a13 x) st sw P:=by
 cases x with
 | t t=>exact FpP.get (hx.t t rfl).1 (hx.t t rfl).2 h
 | _=>exact FpP.ret h
theorem FpP.tmp {x:X} {P:Nat->St->List Nat->Prop} (h:∀ t,x= .t t->P t st sw):FpP D N (b1i x) st sw P:=by
 cases x with
 | t t=>exact FpP.ret (h t rfl)
 | _=>exact FpP.fail
theorem FpP.setD {d:Option Nat} {v:AV} {P:Unit->St->List Nat->Prop} (hd:∀ t,d=some t->D t/\t < N) (h:∀ t,d=some t->P () (st.put t v) sw):FpP D N (setD d v) st sw P:=by
 cases d with
 | none=>exact FpP.fail
 | some t=>exact FpP.put (hd t rfl).1 (hd t rfl).2 (h t rfl)
theorem FpP.thru {d:Option Nat} {v:AV} {M:Nat} {P:Unit->St->List Nat->Prop} (hM:N<=M) (hd:∀ t,d=some t->D t/\t < N) (h:∀ st' sw',P () st' sw'):FpP D N (a3t M d v) st sw P:=
 FpP.bindM (FpP.putN (Nat.not_lt.2 hM) (FpP.bindM (FpP.putN (Nat.not_lt.2 hM) (FpP.setD hd fun _ _=>h _ _))))
end
abbrev tt {α:Type}:α->St->List Nat->Prop:=fun _ _ _=>True
section
variable {D:Nat->Prop} {N:Nat} {st:St} {sw:List Nat} {d:Option Nat} {x y:X} {G:GG}
abbrev DD (D:Nat->Prop) (N:Nat) (d:Option Nat):Prop:=∀ t,d=some t->D t/\t < N
theorem d98 (hx:XO D N st x) (hd:DD D N d):FpP D N (mvE x d) st sw tt:=by
 refine FpP.bindM (FpP.read hx ?_)
 cases hv:rdv st x<;>simp only
 case own=>cases x<;>exact FpP.setD hd fun _ _=>trivial
 case var=>exact FpP.bindM (FpP.tmp fun t ht=>FpP.setD hd fun _ _=>trivial)
 case dead=>exact FpP.fail
 all_goals (split<;>first | exact FpP.setD hd fun _ _=>trivial | exact FpP.bindM (FpP.tmp fun t ht=>FpP.bindM (FpP.upd (hx.t t ht).1 (hx.t t ht).2 (FpP.setD hd fun _ _=>trivial))))
theorem d0a (hx:XO D N st x) (hd:DD D N d):FpP D N (d31 N x d) st sw tt:=by
 have tail:∀ v:AV,FpP D N (a7e N d x v) st sw tt:=by
  intro v
  unfold a7e
  cases x with
  | t t=>simp only; split; exact FpP.setD hd fun _ _=>trivial; exact FpP.bindM (FpP.put (hx.t t rfl).1 (hx.t t rfl).2 (FpP.thru (Nat.le_refl _) hd fun _ _=>trivial))
  | _=>simp only; split; exact FpP.setD hd fun _ _=>trivial; exact FpP.thru (Nat.le_refl _) hd fun _ _=>trivial
 refine FpP.bindM (FpP.read hx ?_)
 cases hv:rdv st x<;>simp only
 case dead=>exact FpP.fail
 case bor t q lo n e=>
  have hb:=hx.b t (by rw [hv]; rfl)
  refine FpP.bindM (FpP.get hb.1 hb.2 (FpP.bindM (FpP.guard fun _=>FpP.bindM (FpP.opt fun k hk=> ?_))))
  cases k<;>simp only<;>try exact FpP.fail
  refine FpP.bindM (FpP.guard fun _=> ?_)
  split
  ·exact FpP.bindM (FpP.put hb.1 hb.2 (FpP.thru (Nat.le_refl _) hd fun _ _=>trivial))
  ·exact FpP.bindM (FpP.upd hb.1 hb.2 (FpP.setD hd fun _ _=>trivial))
 all_goals exact tail _
theorem a8d {P:Value->St->List Nat->Prop} (hx:XO D N st x) (h:∀ v,P v st sw):FpP D N (b6s x) st sw P:=by
 refine FpP.bindM (FpP.read hx ?_)
 cases hv:rdv st x<;>simp only<;>first | exact FpP.ret (h _) | exact FpP.fail
theorem c1r {P:Int->St->List Nat->Prop} (hx:XO D N st x) (h:∀ v,P v st sw):FpP D N (c2x x) st sw P:=by
 refine FpP.bindM (a8d hx fun v=> ?_)
 cases v<;>simp only<;>first | exact FpP.ret (h _) | exact FpP.fail
theorem a6d {x:Option X} {z:Int} {P:Int->St->List Nat->Prop} (hx:∀ y,x=some y->XO D N st y) (h:∀ v,P v st sw):FpP D N (a22 x z) st sw P:=by
 cases x with
 | none=>exact FpP.ret (h _)
 | some x=>exact c1r (hx x rfl) h
theorem c44 {P:(Nat×List Nat×Nat×Nat)->St->List Nat->Prop} (hx:XO D N st x) (h:∀ t q lo n,D t->t < N->P (t,q,lo,n) st sw):FpP D N (a6a x) st sw P:=by
 refine FpP.bindM (FpP.read hx ?_)
 cases hv:rdv st x<;>simp only<;>try exact FpP.fail
 ·exact FpP.bindM (FpP.tmp fun t ht=>FpP.ret (h _ _ _ _ (hx.t t ht).1 (hx.t t ht).2))
 ·rename_i t q lo n e
  have hb:=hx.b t (by rw [hv]; rfl)
  exact FpP.bindM (FpP.get hb.1 hb.2 (FpP.bindM (FpP.guard fun _=>FpP.ret (h _ _ _ _ hb.1 hb.2))))
theorem e0a {P:(Nat×List Nat×Nat)->St->List Nat->Prop} (hx:XO D N st x) (h:∀ t q o,D t->t < N->P (t,q,o) st sw):FpP D N (b9l x) st sw P:=by
 refine FpP.bindM (FpP.read hx ?_)
 cases hv:rdv st x<;>simp only<;>try exact FpP.fail
 ·exact FpP.bindM (FpP.tmp fun t ht=>FpP.ret (h _ _ _ (hx.t t ht).1 (hx.t t ht).2))
 ·rename_i t q lo e
  have hb:=hx.b t (by rw [hv]; rfl)
  exact FpP.bindM (FpP.get hb.1 hb.2 (FpP.bindM (FpP.guard fun _=>FpP.ret (h _ _ _ hb.1 hb.2))))
theorem b2g {P:(Nat×List Nat×Nat×AV×Nat×List AV)->St->List Nat->Prop} (hx:XO D N st x) (h:∀ t q o v e ks,D t->t < N->P (t,q,o,v,e,ks) st sw):FpP D N (c3m x) st sw P:=
 FpP.bindM (e0a hx fun t q o hD hN=>FpP.bindM (FpP.get hD hN (FpP.bindM (FpP.opt fun ks _=>FpP.bindM (FpP.guard fun _=>FpP.ret (h _ _ _ _ _ _ hD hN))))))
theorem c8k {t:Nat} {q:List Nat} {P:AV->St->List Nat->Prop} (hD:D t) (hN:t < N) (h:∀ k,P k st sw):FpP D N (c5t t q) st sw P:=
 FpP.bindM (FpP.get hD hN (FpP.opt fun _ _=>h _))
theorem d16 {s:Option Nat} (hx:XO D N st x) (hd:DD D N d):FpP D N (b71 d s x) st sw tt:=by
 refine FpP.bindM (b2g hx fun t q o v e ks hD hN=> ?_)
 cases s with
 | none=>
  refine FpP.bindM (FpP.opt fun k _=> ?_)
  cases k<;>simp only [a9m]<;>first | exact FpP.setD hd fun _ _=>trivial | exact FpP.bindM (FpP.guard fun _=>FpP.setD hd fun _ _=>trivial)
 | some s=>
  refine FpP.bindM (FpP.guard fun _=> ?_)
  split
  ·exact FpP.setD hd fun _ _=>trivial
  ·exact FpP.bindM (FpP.upd hD hN (FpP.setD hd fun _ _=>trivial))
end
def BLe (N:Nat) (st st':St):Prop:=∀ t,t < N->a2r (st'.s t)=none\/a2r (st'.s t)=a2r (st.s t)
theorem BLe.refl {N:Nat} (st:St):BLe N st st:=fun t _=> .inr rfl
theorem BLe.trans {N:Nat} {a b c:St} (h:BLe N a b) (h2:BLe N b c):BLe N a c:=fun t ht=>by
 rcases h2 t ht with h3 | h3
 ·exact .inl h3
 ·rcases h t ht with h4 | h4
  ·exact .inl (h3.trans h4)
  ·exact .inr (h3.trans h4)
theorem BLe.put {N:Nat} {st:St} {t:Nat} {v:AV} (h:a2r v=none):BLe N st (st.put t v):=fun u _=>by
 simp only [St.put_s]; split
 ·exact .inl h
 ·exact .inr rfl
theorem BLe.putN {N:Nat} {st:St} {t:Nat} {v:AV} (h:¬ t < N):BLe N st (st.put t v):=fun u hu=>by
 simp only [St.put_s]; rw [if_neg (by omega)]; exact .inr rfl
theorem BLe.set {N:Nat} {st:St} {t:Nat} {v:AV} (h:a2r v=none):BLe N st (st.set t v):=fun u _=>by
 simp only [St.set_s]; split
 ·exact .inl h
 ·exact .inr rfl
theorem XO.le {D:Nat->Prop} {N:Nat} {st st':St} {x:X} (h:XO D N st x) (hl:BLe N st st'):XO D N st' x where
 t:=h.t
 b u hu:=by
  cases x with
  | t t=>
   have ht:=h.t t rfl
   simp only [rdv] at hu
   rcases hl t ht.2 with h1 | h1
   ·rw [h1] at hu; cases hu
   ·exact h.b u (by simp only [rdv]; rw [<-h1]; exact hu)
  | _=>cases hu
theorem a5o {v k:AV} {q:List Nat} {k':AV} (hk:a0e v q=some k) (h:a2r k'=none):a2r (a0r v q k')=none:=by
 cases q with
 | nil=>exact h
 | cons i q=>
  cases v<;>simp only [a0e,a0p,reduceCtorEq] at hk
  ·simp only [a0r,a0p]; split<;>rfl
  ·simp only [a0r,a0p]; split<;>rfl
section
variable {D:Nat->Prop} {N:Nat} {st:St} {sw:List Nat} {d:Option Nat} {x y:X} {G:GG}
theorem b93 {P:Unit->St->List Nat->Prop} (hx:XO D N st x) (h:∀ st' sw',BLe N st st'->(∀ t∈sw,t∈sw')->N∈sw'->(∀ t,N < t->st'.s t=st.s t)->P () st' sw'):FpP D N (a3w x N) st sw P:=by
 have hN:¬ N < N:=Nat.lt_irrefl _
 have one:∀ {v:AV},a2r (AV.dead)=none->FpP D N (a2z N v) st sw P:=fun _=>FpP.putN hN (h _ _ (BLe.putN hN) (fun t ht=>by simp [ht]) (by simp) (fun t ht=>by simp [Nat.ne_of_gt ht]))
 have two:∀ {v:AV} (t:Nat),x= .t t->FpP D N (do a2z t .dead; a2z N v) st sw P:=fun t ht=>FpP.bindM (FpP.put (hx.t t ht).1 (hx.t t ht).2 (FpP.putN hN (h _ _ ((BLe.put rfl).trans (BLe.putN hN)) (fun t ht=>by simp [ht]) (by simp) (fun u hu=>by
  have:=(hx.t t ht).2
  simp [Nat.ne_of_gt hu,show u≠t by omega]))))
 refine FpP.bindM (FpP.read hx ?_)
 cases hv:rdv st x<;>simp only
 case dead=>exact FpP.fail
 case tup=>exact FpP.fail
 case ref=>exact FpP.fail
 case bor t q lo n e=>
  have hb:=hx.b t (by rw [hv]; rfl)
  refine FpP.bindM (FpP.get hb.1 hb.2 (FpP.bindM (FpP.guard fun _=>FpP.bindM (FpP.opt fun k hk=> ?_))))
  cases k<;>simp only<;>try exact FpP.fail
  refine FpP.bindM (FpP.guard fun _=>FpP.bindM (FpP.upd hb.1 hb.2 (FpP.putN hN (h _ _ ((BLe.set (a5o hk rfl)).trans (BLe.putN hN)) (fun t ht=>by simp [ht]) (by simp) (fun u hu=>by
   have:=hb.2
   simp [Nat.ne_of_gt hu,show u≠t by omega])))))
 case agg=>exact FpP.bindM (FpP.tmp fun t ht=>two t ht)
 case own=>
  cases x with
  | t t=>exact two t rfl
  | _=>exact one rfl
 case var=>exact FpP.bindM (FpP.tmp fun t ht=>two t ht)
 case ifc=>exact FpP.bindM (FpP.tmp fun t ht=>two t ht)
 case mp=>exact FpP.bindM (FpP.tmp fun t ht=>two t ht)
 case fn=>exact FpP.bindM (FpP.guard fun _=>one rfl)
 all_goals exact FpP.bindM (FpP.guard fun _=>one rfl)
theorem b7u {j:Nat} {P:List AV->St->List Nat->Prop} (hN:¬ j < N) (hs:j∈sw) (h:∀ ks,P ks st sw):FpP D N (b8x j) st sw P:=by
 refine FpP.bindM (FpP.getv hN hs ?_)
 cases st.s j<;>simp only<;>first | exact FpP.ret (h _) | exact FpP.fail
theorem d92 {T:TypeId} {sz:Nat} (hx:XO D N st x) (hd:DD D N d):FpP D N (a04 G N d (.box T sz x)) st sw tt:=by
 have hN:¬ N < N:=Nat.lt_irrefl _
 exact FpP.bindM (b93 hx fun st' sw' _ _ hs _=>FpP.bindM (b7u hN hs fun ks=>FpP.bindM (FpP.guard fun _=>FpP.thru (Nat.le_refl _) hd fun _ _=>trivial)))
theorem b5s:∀ (l:List (Nat×Nat×X)) {st:St} {sw:List Nat} {P:Unit->St->List Nat->Prop},(∀ p∈l,XO D N st p.2.2)->(N+1)∈sw->(∀ st' sw',(N+1)∈sw'->P () st' sw')->FpP D N (a6l N l) st sw P
 | [],st,sw,P,_,hs,h=>FpP.ret (h _ _ hs)
 | (off,sz,x)::rest,st,sw,P,hx,hs,h=>by
  have hN:¬ N < N:=Nat.lt_irrefl _
  have hN1:¬ N+1 < N:=by omega
  refine FpP.bindM (b93 (hx (off,sz,x) (by simp)) fun st1 sw1 hb hsw hNs _=>FpP.bindM (b7u hN hNs fun ks=>FpP.bindM (b7u hN1 (hsw _ hs) fun zs=>FpP.bindM (FpP.guard fun _=>FpP.bindM (FpP.putN hN (FpP.bindM (FpP.putN hN1 ?_)))))))
  exact b5s rest (fun p hp=>(hx p (by simp [hp])).le (hb.trans ((BLe.put rfl).trans (BLe.putN hN1)))) (by simp) h
theorem c8c {T:TypeId} {zs:List AV} {parts:List (Nat×Nat×Nat×X)} (hx:∀ p∈parts,XO D N st p.2.2.2) (hd:DD D N d):FpP D N (a04 G N d (.build T zs parts)) st sw tt:=by
 have hN1:¬ N+1 < N:=by omega
 refine FpP.bindM (FpP.putN hN1 (FpP.bindM (b5s _ (fun p hp=> ?_) (by simp) fun st' sw' hs=>FpP.bindM (b7u hN1 hs fun ks=>FpP.bindM (FpP.putN hN1 (FpP.setD hd fun _ _=>trivial))))))
 obtain ⟨r,hr,rfl⟩:=List.mem_map.1 hp
 exact (hx r hr).le (BLe.putN hN1)
theorem c45 {T e:TypeId} {sz len:Nat} {zs:List AV} {parts:List (Nat×X)} (hx:∀ p∈parts,XO D N st p.2) (hd:DD D N d):FpP D N (a04 G N d (.bslice T e sz len zs parts)) st sw tt:=by
 have hN1:¬ N+1 < N:=by omega
 refine FpP.bindM (FpP.putN hN1 (FpP.bindM (b5s _ (fun p hp=> ?_) (by simp) fun st' sw' hs=>FpP.bindM (b7u hN1 hs fun ks=>FpP.thru (by omega) hd fun _ _=>trivial))))
 obtain ⟨r,hr,rfl⟩:=List.mem_map.1 hp
 exact (hx r hr).le (BLe.putN hN1)
theorem c8n {T:TypeId} {s:Nat} (hx:XO D N st x) (hy:XO D N st y) (hd:d=none) (hk:∀ r,giv st N y (rdv st y)=some r->a0m r.2=true\/∀ t,t < N->D t):FpP D N (a04 G N d (.store T s x y)) st sw tt:=by
 have hN:¬ N < N:=Nat.lt_irrefl _
 refine FpP.bindM (FpP.guard fun _=> ?_)
 have hg:FpP D N (a3w y N) st sw (fun _ st' sw'=>(BLe N st st'/\N∈sw')/\∃ r,giv st N y (rdv st y)=some r/\st'.s N= .agg r.2):=by
  intro a st' hr
  obtain ⟨rd,wr,sw',h1,h2,h3,h4⟩:=b93 (P:=fun _ st' sw'=>BLe N st st'/\N∈sw') (sw:=sw) hy (fun st' sw' h1 _ h2 _=>⟨h1,h2⟩) a st' hr
  refine ⟨rd,wr,sw',h1,h2,h3,h4,?_⟩
  rw [a9x] at hr
  cases hgv:giv st N y (rdv st y) with
  | none=>rw [hgv] at hr; cases hr
  | some r=>
   rw [hgv] at hr
   simp only [Option.map,Option.some.injEq,Prod.mk.injEq,true_and] at hr
   exact ⟨r,rfl,by rw [<-hr]; simp⟩
 refine FpP.bindM (FpP.mono hg fun a st' sw' ⟨⟨hb,hs⟩,r,hr,hsN⟩=> ?_)
 have hno:=hk r hr
 refine FpP.bindM (FpP.mono (b2g (P:=fun p st2 sw2=>(D p.1/\p.1 < N)/\st2=st'/\sw2=sw') (hx.le hb) fun t q o v e ks hD htN=>⟨⟨hD,htN⟩,rfl,rfl⟩) ?_)
 rintro ⟨t,q,o,v,e,ks⟩ st2 sw2 ⟨⟨hD,htN⟩,rfl,rfl⟩
 refine FpP.bindM (FpP.mono (P:=fun ks2 st3 sw3=>ks2=r.2/\st3=st2/\sw3=sw2) (FpP.bindM (FpP.getv hN hs (by rw [hsN]; exact FpP.ret ⟨rfl,rfl,rfl⟩))) ?_)
 rintro cs st3 sw3 ⟨rfl,rfl,rfl⟩
 refine FpP.bindM (FpP.guard fun _=>FpP.bindM (FpP.putN hN ?_))
 rcases hno with hno | hall
 ·rw [if_pos hno]
  exact FpP.upd hD htN trivial
 ·split
  ·exact FpP.upd hD htN trivial
  ·exact FpP.bindM (FpP.kill hall (FpP.upd hD htN trivial))
theorem c8j (hx:XO D N st x) (hd:DD D N d):FpP D N (a04 G N d (.nilck x)) st sw tt:=by
 refine FpP.bindM (FpP.read hx ?_)
 cases hv:rdv st x<;>simp only<;>first | exact FpP.setD hd fun _ _=>trivial | exact FpP.bindM (b2g hx fun _ _ _ _ _ _ _ _=>FpP.setD hd fun _ _=>trivial)
theorem c8e {T:TypeId} {off f:Nat} (hx:XO D N st x) (hd:DD D N d):FpP D N (a04 G N d (.faddr T off x f)) st sw tt:=by
 refine FpP.bindM (FpP.read hx ?_)
 cases hv:rdv st x<;>simp only<;>first | exact FpP.setD hd fun _ _=>trivial | exact FpP.bindM (b2g hx fun _ _ _ _ _ _ _ _=>FpP.setD hd fun _ _=>trivial)
theorem c8a {T:TypeId} {off f:Nat} (hx:XO D N st x) (hd:DD D N d):FpP D N (a04 G N d (.aaddr T off x f)) st sw tt:=by
 refine FpP.bindM (FpP.read hx ?_)
 cases hv:rdv st x<;>simp only<;>first | exact FpP.setD hd fun _ _=>trivial | exact FpP.bindM (b2g hx fun _ _ _ _ _ _ _ _=>FpP.setD hd fun _ _=>trivial)
theorem c46 {T:TypeId} {s:Option Nat} (hx:XO D N st x) (hd:DD D N d):FpP D N (a04 G N d (.load T s x)) st sw tt:=by
 refine FpP.bindM (FpP.read hx ?_)
 simp only
 split
 ·exact FpP.bindM (FpP.opt fun _ _=>FpP.setD hd fun _ _=>trivial)
 ·exact FpP.bindM (FpP.opt fun _ _=>FpP.bindM (FpP.guard fun _=>FpP.setD hd fun _ _=>trivial))
 ·exact FpP.bindM (FpP.guard fun _=>FpP.setD hd fun _ _=>trivial)
 ·exact d16 hx hd
theorem c8g {T:TypeId} {sz:Nat} {i:X} (hx:XO D N st x) (hi:XO D N st i) (hd:DD D N d):FpP D N (a04 G N d (.iaddr T sz x i)) st sw tt:=by
 refine FpP.bindM (c1r hi fun n=>FpP.bindM (FpP.guard fun _=>FpP.bindM (FpP.read hx ?_)))
 have rest:FpP D N (do
   let (t,q,lo,m)<-a6a x
   a0k (decide (n < (m:Int)))
   let v<-b0g t
   let k<-a3p (a0e v.1 q)
   match k with
   | .own sz' n0 _=>do
    a0k (sz'==sz&&decide (lo+m<=n0))
    setD d (.ref t q ((lo+n.toNat)*sz) v.2)
   | _=> .fail) st sw tt:=by
  refine FpP.bindM (c44 hx fun t q lo m hD hN=>FpP.bindM (FpP.guard fun _=>FpP.bindM (FpP.get hD hN (FpP.bindM (FpP.opt fun k _=> ?_)))))
  cases k<;>simp only<;>first | exact FpP.fail | exact FpP.bindM (FpP.guard fun _=>FpP.setD hd fun _ _=>trivial)
 cases hv:rdv st x<;>simp only<;>first | exact FpP.bindM (FpP.guard fun _=>FpP.setD hd fun _ _=>trivial) | exact rest
theorem c8h {T:TypeId} {b:Bool} (hx:XO D N st x) (hd:DD D N d):FpP D N (a04 G N d (.len T b x)) st sw tt:=by
 cases b with
 | true=>
  refine FpP.bindM (a8d hx fun v=> ?_)
  cases v<;>simp only<;>first | exact FpP.fail | exact FpP.setD hd fun _ _=>trivial
 | false=>
  refine FpP.bindM (FpP.read hx ?_)
  have rest:FpP D N (do
   let (t,q,lo,n)<-a6a x
   let k<-c5t t q
   match k with
   | .own _ n0 _=>do
    a0k (decide (lo+n<=n0))
    setD d (.lit (.int .i64 n))
   | _=> .fail) st sw tt:=by
   refine FpP.bindM (c44 hx fun t q lo m hD hN=>FpP.bindM (c8k hD hN fun k=> ?_))
   cases k<;>simp only<;>first | exact FpP.fail | exact FpP.bindM (FpP.guard fun _=>FpP.setD hd fun _ _=>trivial)
  cases hv:rdv st x<;>simp only<;>first | exact FpP.setD hd fun _ _=>trivial | exact rest
theorem d91 {b:BinOp} {T kd:Nat} {yT:TypeId} (hx:XO D N st x) (hy:XO D N st y) (hd:DD D N d):FpP D N (a04 G N d (.bin b T kd x y yT)) st sw tt:=
 FpP.bindM (FpP.read hx (FpP.bindM (FpP.read hy (FpP.bindM (FpP.opt fun _ _=>FpP.setD hd fun _ _=>trivial)))))
theorem f1d {u:UnOp} {T:TypeId} (hx:XO D N st x) (hd:DD D N d):FpP D N (a04 G N d (.un u T x)) st sw tt:=
 FpP.bindM (a8d hx fun _=>FpP.bindM (FpP.opt fun _ _=>FpP.setD hd fun _ _=>trivial))
theorem d19 {c:X} (hc:XO D N st c) (hx:XO D N st x) (hy:XO D N st y) (hd:DD D N d):FpP D N (a04 G N d (.pick c x y)) st sw tt:=
 FpP.bindM (a8d hc fun _=>FpP.bindM (FpP.read hx (FpP.bindM (FpP.read hy (FpP.bindM (FpP.opt fun _ _=>FpP.setD hd fun _ _=>trivial))))))
theorem c8b {T:TypeId} {zs:List AV} (hd:DD D N d):FpP D N (a04 G N d (.alloc T zs)) st sw tt:=FpP.thru (Nat.le_refl _) hd fun _ _=>trivial
theorem c8d {s t:TypeId} {k:IntKind} (hx:XO D N st x) (hd:DD D N d):FpP D N (a04 G N d (.conv s t (.int k) x)) st sw tt:=by
 refine FpP.bindM (a8d hx fun v=> ?_)
 cases v<;>simp only<;>first | exact FpP.fail | exact FpP.setD hd fun _ _=>trivial
theorem d96 {T:TypeId} (hx:XO D N st x) (hd:DD D N d):FpP D N (a04 G N d (.mki T x)) st sw tt:=by
 refine FpP.bindM (FpP.read hx ?_)
 cases hv:rdv st x<;>simp only<;>first | exact FpP.fail | exact FpP.setD hd fun _ _=>trivial | exact FpP.bindM (FpP.tmp fun t ht=>FpP.bindM (FpP.upd (hx.t t ht).1 (hx.t t ht).2 (FpP.setD hd fun _ _=>trivial)))
theorem d97 {T e:TypeId} {sz by_:Nat} {zs:List AV} (hx:XO D N st x) (hy:XO D N st y) (hd:DD D N d):FpP D N (a04 G N d (.mks T e sz by_ zs x y)) st sw tt:=
 FpP.bindM (c1r hx fun _=>FpP.bindM (c1r hy fun _=>FpP.bindM (FpP.guard fun _=>FpP.thru (Nat.le_refl _) hd fun _ _=>trivial)))
theorem d94 {i:Nat} (hx:XO D N st x) (hd:DD D N d):FpP D N (a04 G N d (.ext x i)) st sw tt:=by
 refine FpP.bindM (FpP.read hx ?_)
 cases hv:rdv st x<;>simp only<;>try exact FpP.fail
 refine FpP.bindM (FpP.opt fun k _=> ?_)
 split
 ·exact FpP.setD hd fun _ _=>trivial
 ·exact FpP.bindM (FpP.tmp fun t ht=>FpP.bindM (FpP.put (hx.t t ht).1 (hx.t t ht).2 (FpP.thru (Nat.le_refl _) hd fun _ _=>trivial)))
theorem d95 {T off f:Nat} (hx:XO D N st x) (hd:DD D N d):FpP D N (a04 G N d (.fld T off x f)) st sw tt:=by
 refine FpP.bindM (FpP.read hx ?_)
 cases hv:rdv st x<;>simp only<;>try exact FpP.fail
 exact FpP.bindM (FpP.opt fun k _=>FpP.bindM (FpP.guard fun _=>FpP.setD hd fun _ _=>trivial))
theorem d0b {P:Int->St->List Nat->Prop} (hx:XO D N st x) (h:∀ v,P v st sw):FpP D N (d2f x) st sw P:=by
 refine FpP.bindM (a8d hx fun v=> ?_)
 split
 ·exact FpP.ret (h _)
 ·exact FpP.fail
theorem c47 {P:(Nat×List Nat×AV×List Int×List AV)->St->List Nat->Prop} (hx:XO D N st x) (h:∀ t q v keys vals,D t->t < N->P (t,q,v,keys,vals) st sw):FpP D N (d2t x) st sw P:=by
 refine FpP.bindM (FpP.read hx ?_)
 cases hv:rdv st x<;>simp only<;>try exact FpP.fail
 rename_i t q lo n e
 have hb:=hx.b t (by rw [hv]; rfl)
 refine FpP.bindM (FpP.get hb.1 hb.2 (FpP.bindM (FpP.guard fun _=>FpP.bindM (FpP.opt fun k _=> ?_))))
 cases k<;>simp only<;>first | exact FpP.fail | exact FpP.ret (h _ _ _ _ _ hb.1 hb.2)
theorem c8i {T:TypeId} (hd:DD D N d):FpP D N (a04 G N d (.mkmap T)) st sw tt:=FpP.thru (Nat.le_refl _) hd fun _ _=>trivial
theorem d17 {T e:TypeId} {zs:List AV} (hx:XO D N st x) (hy:XO D N st y) (hd:DD D N d):FpP D N (a04 G N d (.mget T e zs x y)) st sw tt:=by
 refine FpP.bindM (c47 hx fun t q v keys vals _ _=>FpP.bindM (d0b hy fun n=> ?_))
 split
 ·exact FpP.bindM (FpP.guard fun _=>FpP.setD hd fun _ _=>trivial)
 ·exact FpP.bindM (FpP.guard fun _=>FpP.setD hd fun _ _=>trivial)
theorem d18 {T e:TypeId} {z:X} (hx:XO D N st x) (hy:XO D N st y) (hz:XO D N st z):FpP D N (a04 G N d (.mset T e x y z)) st sw tt:=
 FpP.bindM (FpP.guard fun _=>FpP.bindM (c47 hx fun t q v keys vals hD hN=>FpP.bindM (d0b hy fun n=>FpP.bindM (FpP.read hz (FpP.bindM (FpP.guard fun _=>FpP.upd hD hN trivial))))))
theorem e0c {xT T:TypeId} {zs:List AV} (hx:XO D N st x) (hd:DD D N d):FpP D N (a04 G N d (.tas x xT T zs)) st sw tt:=by
 refine FpP.bindM (FpP.read hx ?_)
 simp only
 split
 ·exact FpP.setD hd fun _ _=>trivial
 ·exact FpP.setD hd fun _ _=>trivial
 ·exact FpP.bindM (FpP.guard fun _=>FpP.setD hd fun _ _=>trivial)
 ·exact FpP.fail
theorem f1c {mx:Bool} {ts:List TypeId} (hx:XO D N st x) (hy:XO D N st y) (hd:DD D N d):FpP D N (a04 G N d (.mm mx ts [x,y])) st sw tt:=by
 refine FpP.bindM (a8d hx fun u=>FpP.bindM (a8d hy fun v=> ?_))
 split
 ·exact FpP.bindM (FpP.guard fun _=>FpP.setD hd fun _ _=>trivial)
 ·exact FpP.fail
theorem d93 {b:BinOp} {T tp te:TypeId} {yT:TypeId} (hx:XO D N st x) (hy:XO D N st y) (hd:DD D N d):FpP D N (a04 G N d (.eqs b T tp te x y yT)) st sw tt:=by
 refine FpP.bindM (a8d hx fun u=>FpP.bindM (a8d hy fun v=> ?_))
 split
 ·refine FpP.bindM (FpP.guard fun _=> ?_)
  split<;>first | exact FpP.setD hd fun _ _=>trivial | exact FpP.fail
 ·exact FpP.fail
end
open Classical
section
variable {D:Nat->Prop} {N:Nat} {st:St} {sw:List Nat} {d:Option Nat} {x y:X} {G:GG}
theorem c8m {T:TypeId} {sz:Nat} {lo hi:Option X} (hx:XO D N st x) (hlo:∀ y,lo=some y->XO D N st y) (hhi:∀ y,hi=some y->XO D N st y) (hd:DD D N d):FpP D N (a04 G N d (.slice T sz x lo hi none)) st sw tt:=by
 refine FpP.bindM (FpP.read hx ?_)
 have rest:FpP D N (do
   a0k (decide (0 < sz))
   let (t,q,lo0,n)<-a6a x
   let v<-b0g t
   let k<-a3p (a0e v.1 q)
   match k with
   | .own sz' n0 _=>do
    let l<-a22 lo 0
    let h<-a22 hi n
    a0k (decide (0<=l)&&decide (l<=h)&&decide (h<=(n:Int))&&decide (lo0+n<=n0)&&sz'==sz&&(lo0==0||l==0||decide (l < h)))
    match (none:Option X) with
    | none=>setD d (.bor t q (lo0+l.toNat) (h - l).toNat v.2)
    | some m=>do
     let m<-c2x m
     a0k (l==0&&h==0&&m==0&&hi.isSome)
     a3t N d (.own sz 0 [])
   | _=> .fail) st sw tt:=by
  refine FpP.bindM (FpP.guard fun _=>FpP.bindM (c44 hx fun t q lo0 n hD hN=>FpP.bindM (FpP.get hD hN (FpP.bindM (FpP.opt fun k _=> ?_)))))
  cases k<;>simp only<;>try exact FpP.fail
  exact FpP.bindM (a6d hlo fun _=>FpP.bindM (a6d hhi fun _=>FpP.bindM (FpP.guard fun _=>FpP.setD hd fun _ _=>trivial)))
 cases hv:rdv st x
 case lit v=>
  cases v<;>simp only<;>try exact rest
  exact FpP.bindM (a6d hlo fun _=>FpP.bindM (a6d hhi fun _=>FpP.bindM (FpP.guard fun _=>FpP.setD hd fun _ _=>trivial)))
 case sl=>exact FpP.bindM (FpP.guard fun _=>FpP.bindM (a6d hlo fun _=>FpP.bindM (a6d hhi fun _=>FpP.bindM (FpP.guard fun _=>FpP.setD hd fun _ _=>trivial))))
 all_goals exact rest
theorem d2a {P:Unit->St->List Nat->Prop} (hx:XO D N st x) (h:∀ st' sw',BLe N st st'->N∈sw'->P () st' sw'):FpP D N (c03 x N) st sw P:=by
 have hN:¬ N < N:=Nat.lt_irrefl _
 refine FpP.bindM (FpP.read hx ?_)
 cases hv:rdv st x<;>simp only<;>try exact FpP.fail
 ·cases x with
  | t t=>exact FpP.bindM (FpP.put (hx.t t rfl).1 (hx.t t rfl).2 (FpP.putN hN (h _ _ ((BLe.put rfl).trans (BLe.putN hN)) (by simp))))
  | _=>exact FpP.putN hN (h _ _ (BLe.putN hN) (by simp))
 ·rename_i t q lo n e
  have hb:=hx.b t (by rw [hv]; rfl)
  refine FpP.bindM (FpP.get hb.1 hb.2 (FpP.bindM (FpP.guard fun _=>FpP.bindM (FpP.opt fun k hk=> ?_))))
  cases k<;>simp only<;>try exact FpP.fail
  exact FpP.bindM (FpP.guard fun _=>FpP.bindM (FpP.upd hb.1 hb.2 (FpP.putN hN (h _ _ ((BLe.set (a5o hk rfl)).trans (BLe.putN hN)) (by simp)))))
theorem e0b {P:Unit->St->List Nat->Prop} (hx:XO D N st x) (h:∀ st' sw',(∀ t∈sw,t∈sw')->N+1∈sw'->P () st' sw'):FpP D N (d66 x N) st sw P:=by
 have hN:¬ N+1 < N:=by omega
 refine FpP.bindM (FpP.read hx ?_)
 cases hv:rdv st x<;>simp only<;>try exact FpP.fail
 ·exact FpP.putN hN (h _ _ (fun t ht=>by simp [ht]) (by simp))
 ·cases x with
  | t t=>exact FpP.bindM (FpP.put (hx.t t rfl).1 (hx.t t rfl).2 (FpP.putN hN (h _ _ (fun t ht=>by simp [ht]) (by simp))))
  | _=>exact FpP.putN hN (h _ _ (fun t ht=>by simp [ht]) (by simp))
 ·rename_i t q lo n e
  have hb:=hx.b t (by rw [hv]; rfl)
  refine FpP.bindM (FpP.get hb.1 hb.2 (FpP.bindM (FpP.guard fun _=>FpP.bindM (FpP.opt fun k hk=> ?_))))
  cases k<;>simp only<;>try exact FpP.fail
  exact FpP.bindM (FpP.guard fun _=>FpP.bindM (FpP.upd hb.1 hb.2 (FpP.putN hN (h _ _ (fun t ht=>by simp [ht]) (by simp)))))
theorem d90 {T e:TypeId} {sz by_:Nat} (hx:XO D N st x) (hy:XO D N st y) (hd:DD D N d):FpP D N (a04 G N d (.app T e sz by_ x y)) st sw tt:=by
 have hN:¬ N < N:=Nat.lt_irrefl _
 have hN1:¬ N+1 < N:=by omega
 refine FpP.bindM (d2a hx fun st1 sw1 hb hs=>FpP.bindM (e0b (hy.le hb) fun st2 sw2 hsw hs1=>FpP.bindM (FpP.getv hN (hsw _ hs) (FpP.bindM (FpP.getv hN1 hs1 ?_)))))
 split
 ·exact FpP.bindM (FpP.guard fun _=>FpP.bindM (FpP.putN hN1 (FpP.thru (Nat.le_refl _) hd fun _ _=>trivial)))
 ·exact FpP.bindM (FpP.guard fun _=>FpP.bindM (FpP.putN hN1 (FpP.thru (Nat.le_refl _) hd fun _ _=>trivial)))
 ·exact FpP.fail
theorem c8f {j:Nat} (hj:N<=j) {P:Unit->St->List Nat->Prop} (hx:XO D N st x) (h:∀ st' sw',BLe N st st'->(∀ t∈sw,t∈sw')->j∈sw'->P () st' sw'):FpP D N (b96 N x j) st sw P:=by
 have hN:¬ j < N:=Nat.not_lt.2 hj
 have one:∀ {v:AV},FpP D N (a2z j v) st sw P:=FpP.putN hN (h _ _ (BLe.putN hN) (fun t ht=>by simp [ht]) (by simp))
 have tail:∀ v:AV,FpP D N (a3l x j v) st sw P:=by
  intro v
  unfold a3l
  cases x with
  | t t=>
   simp only
   split
   ·exact one
   ·exact FpP.bindM (FpP.put (hx.t t rfl).1 (hx.t t rfl).2 (FpP.putN hN (h _ _ ((BLe.put rfl).trans (BLe.putN hN)) (fun t ht=>by simp [ht]) (by simp))))
  | _=>exact one
 refine FpP.bindM (FpP.read hx ?_)
 cases hv:rdv st x<;>simp only
 case dead=>exact FpP.fail
 case bor t q lo n e=>
  have hb:=hx.b t (by rw [hv]; rfl)
  refine FpP.bindM (FpP.get hb.1 hb.2 (FpP.bindM (FpP.guard fun _=>FpP.bindM (FpP.opt fun k hk=> ?_))))
  cases k<;>simp only<;>try exact FpP.fail
  exact FpP.bindM (FpP.guard fun _=>FpP.bindM (FpP.upd hb.1 hb.2 (FpP.putN hN (h _ _ ((BLe.set (a5o hk rfl)).trans (BLe.putN hN)) (fun t ht=>by simp [ht]) (by simp)))))
 all_goals exact FpP.bindM (FpP.guard fun _=>tail _)
theorem c7l {v:AV} (h:a0n v=false):a2r (frz v)=none:=by
 cases v<;>first | rfl | simp [a0n] at h
theorem c8l {j:Nat} (hj:N<=j) {P:Unit->St->List Nat->Prop} (hx:XO D N st x) (h:∀ st' sw',BLe N st st'->(∀ t∈sw,t∈sw')->j∈sw'->P () st' sw'):FpP D N (b6f N x j) st sw P:=by
 have hN:¬ j < N:=Nat.not_lt.2 hj
 have one:∀ {v:AV},FpP D N (a2z j v) st sw P:=FpP.putN hN (h _ _ (BLe.putN hN) (fun t ht=>by simp [ht]) (by simp))
 have tail:∀ v:AV,FpP D N (a29 x j v) st sw P:=by
  intro v
  unfold a29
  cases x with
  | t t=>
   simp only
   split
   ·exact one
   ·rename_i hno
    exact FpP.bindM (FpP.upd (hx.t t rfl).1 (hx.t t rfl).2 (FpP.putN hN (h _ _ ((BLe.set (c7l (by simpa using hno))).trans (BLe.putN hN)) (fun t ht=>by simp [ht]) (by simp))))
  | _=>exact one
 refine FpP.bindM (FpP.read hx ?_)
 cases hv:rdv st x<;>simp only
 case dead=>exact FpP.fail
 case bor t q lo n e=>
  have hb:=hx.b t (by rw [hv]; rfl)
  refine FpP.bindM (FpP.get hb.1 hb.2 (FpP.bindM (FpP.guard fun _=>FpP.bindM (FpP.opt fun k hk=> ?_))))
  cases k<;>simp only<;>try exact FpP.fail
  exact FpP.bindM (FpP.guard fun _=>FpP.bindM (FpP.upd hb.1 hb.2 (FpP.putN hN (h _ _ ((BLe.set (a5o hk rfl)).trans (BLe.putN hN)) (fun t ht=>by simp [ht]) (by simp)))))
 all_goals exact FpP.bindM (FpP.guard fun _=>tail _)
theorem c1q:∀ (xs:List (Bool×X)) (j:Nat) {st:St} {sw:List Nat} {P:Unit->St->List Nat->Prop},N<=j->(∀ p∈xs,XO D N st p.2)->(∀ st' sw',BLe N st st'->(∀ t∈sw,t∈sw')->(∀ i x,xs[i]? =some (true,x)->j+i∈sw')->P () st' sw')->FpP D N (a4w N j xs) st sw P
 | [],j,st,sw,P,hj,hx,h=>FpP.ret (h _ _ (BLe.refl _) (fun _ h=>h) (fun i x hi=>by simp at hi))
 | (b,x)::xs,j,st,sw,P,hj,hx,h=>by
  refine FpP.bindM ?_
  have go:∀ st1 sw1,BLe N st st1->(∀ t∈sw,t∈sw1)->(b=true->j∈sw1)->FpP D N (a4w N (j+1) xs) st1 sw1 P:=fun st1 sw1 hb hs hj1=>
   c1q xs (j+1) (by omega) (fun p hp=>(hx p (by simp [hp])).le hb) fun st2 sw2 hb2 hs2 hi=>h _ _ (hb.trans hb2) (fun t ht=>hs2 t (hs t ht)) fun i y hy=>by
    cases i with
    | zero=>
     simp only [List.getElem?_cons_zero,Option.some.injEq,Prod.mk.injEq] at hy
     exact hs2 _ (hj1 hy.1)
    | succ i=>rw [show j+(i+1)=j+1+i by omega]; exact hi i y (by simpa using hy)
  cases b with
  | true=>exact c8f hj (hx (true,x) (by simp)) fun st1 sw1 hb hs hj1=>go st1 sw1 hb hs fun _=>hj1
  | false=>exact FpP.ret (go st sw (BLe.refl _) (fun _ h=>h) fun hc=>by cases hc)
theorem b7v:∀ (xs:List (Bool×X)) (j:Nat) {st:St} {sw:List Nat} {P:Unit->St->List Nat->Prop},N<=j->(∀ p∈xs,XO D N st p.2)->(∀ st' sw',(∀ t∈sw,t∈sw')->(∀ i x,xs[i]? =some (false,x)->j+i∈sw')->P () st' sw')->FpP D N (a3g N j xs) st sw P
 | [],j,st,sw,P,hj,hx,h=>FpP.ret (h _ _ (fun _ h=>h) (fun i x hi=>by simp at hi))
 | (b,x)::xs,j,st,sw,P,hj,hx,h=>by
  refine FpP.bindM ?_
  have go:∀ st1 sw1,BLe N st st1->(∀ t∈sw,t∈sw1)->(b=false->j∈sw1)->FpP D N (a3g N (j+1) xs) st1 sw1 P:=fun st1 sw1 hb hs hj1=>
   b7v xs (j+1) (by omega) (fun p hp=>(hx p (by simp [hp])).le hb) fun st2 sw2 hs2 hi=>h _ _ (fun t ht=>hs2 t (hs t ht)) fun i y hy=>by
    cases i with
    | zero=>
     simp only [List.getElem?_cons_zero,Option.some.injEq,Prod.mk.injEq] at hy
     exact hs2 _ (hj1 hy.1)
    | succ i=>rw [show j+(i+1)=j+1+i by omega]; exact hi i y (by simpa using hy)
  cases b with
  | false=>exact c8l hj (hx (false,x) (by simp)) fun st1 sw1 hb hs hj1=>go st1 sw1 hb hs fun _=>hj1
  | true=>exact FpP.ret (go st sw (BLe.refl _) (fun _ h=>h) fun hc=>by cases hc)
end
def b0o:IOp->Option (List X)
 | .mv x=>some [x]
 | .asg x=>some [x]
 | .mva x=>some [x]
 | .mvf x=>some [x]
 | .pick c x y=>some [c,x,y]
 | .alloc _ _=>some []
 | .box _ _ x=>some [x]
 | .build _ _ parts=>some (parts.map fun p=>p.2.2.2)
 | .bslice _ _ _ _ _ parts=>some (parts.map fun p=>p.2)
 | .load _ _ x=>some [x]
 | .store _ _ x y=>some [x,y]
 | .nilck x=>some [x]
 | .bin _ _ _ x y _=>some [x,y]
 | .un _ _ x=>some [x]
 | .eqs _ _ _ _ x y _=>some [x,y]
 | .conv _ _ (.int _) x=>some [x]
 | .mki _ x=>some [x]
 | .mks _ _ _ _ _ x y=>some [x,y]
 | .slice _ _ x lo hi none=>some (x::(lo.toList++hi.toList))
 | .faddr _ _ x _=>some [x]
 | .aaddr _ _ x _=>some [x]
 | .iaddr _ _ x i=>some [x,i]
 | .ext x _=>some [x]
 | .fld _ _ x _=>some [x]
 | .tas x _ _ _=>some [x]
 | .len _ _ x=>some [x]
 | .app _ _ _ _ x y=>some [x,y]
 | .mm _ _ [x,y]=>some [x,y]
 | .mkmap _=>some []
 | .mget _ _ _ x k=>some [x,k]
 | .mset _ _ x k v=>some [x,k,v]
 | _=>none
def d67 (N:Nat) (st:St):IOp->Bool
 | .store _ _ _ y=>match giv st N y (rdv st y) with
  | some r=>a0m r.2
  | none=>true
 | _=>true
def c6l (N:Nat) (st:St):IOp->Prop
 | .store _ _ _ y=>match giv st N y (rdv st y) with
  | some r=>a0m r.2=true
  | none=>True
 | _=>True
theorem d3r {N:Nat} {st:St} {i:IOp} (h:d67 N st i=true):c6l N st i:=by
 cases i<;>try trivial
 simp only [d67,c6l] at h ⊢
 split<;>rename_i hh
 ·rw [hh] at h; exact h
 ·trivial
theorem d99 {D:Nat->Prop} {N:Nat} {st:St} {sw:List Nat} {d:Option Nat} {G:GG} {i:IOp} {xs:List X} (ho:b0o i=some xs) (hx:∀ x∈xs,XO D N st x) (hd:DD D N d) (hs:c6l N st i\/∀ t,t < N->D t):FpP D N (a04 G N d i) st sw tt:=by
 cases i<;>simp only [b0o,Option.some.injEq,reduceCtorEq] at ho
 case mv=>subst ho; exact d98 (hx _ (by simp)) hd
 case asg=>subst ho; exact d0a (hx _ (by simp)) hd
 case mva=>subst ho; exact d0a (hx _ (by simp)) hd
 case mvf=>subst ho; exact d98 (hx _ (by simp)) hd
 case pick=>subst ho; exact d19 (hx _ (by simp)) (hx _ (by simp)) (hx _ (by simp)) hd
 case alloc=>exact c8b hd
 case box=>subst ho; exact d92 (hx _ (by simp)) hd
 case build=>subst ho; exact c8c (fun p hp=>hx _ (List.mem_map.2 ⟨p,hp,rfl⟩)) hd
 case bslice=>subst ho; exact c45 (fun p hp=>hx _ (List.mem_map.2 ⟨p,hp,rfl⟩)) hd
 case load=>subst ho; exact c46 (hx _ (by simp)) hd
 case store T s x y=>
  subst ho
  by_cases hdn:d=none
  ·refine c8n (hx _ (by simp)) (hx _ (by simp)) hdn fun r hr=> ?_
   rcases hs with hs | hs
   ·simp only [c6l,hr] at hs
    exact .inl hs
   ·exact .inr hs
  ·intro a st' hr
   exfalso
   cases d with
   | none=>exact hdn rfl
   | some d=>cases hr
 case nilck=>subst ho; exact c8j (hx _ (by simp)) hd
 case bin=>subst ho; exact d91 (hx _ (by simp)) (hx _ (by simp)) hd
 case un=>subst ho; exact f1d (hx _ (by simp)) hd
 case eqs=>subst ho; exact d93 (hx _ (by simp)) (hx _ (by simp)) hd
 case conv s t k x=>
  cases k<;>simp only [b0o,Option.some.injEq,reduceCtorEq] at ho
  subst ho; exact c8d (hx _ (by simp)) hd
 case mki=>subst ho; exact d96 (hx _ (by simp)) hd
 case mks=>subst ho; exact d97 (hx _ (by simp)) (hx _ (by simp)) hd
 case slice T sz x lo hi mx=>
  cases mx<;>simp only [b0o,Option.some.injEq,reduceCtorEq] at ho
  subst ho
  exact c8m (hx _ (by simp)) (fun y hy=>hx _ (by simp [hy])) (fun y hy=>hx _ (by simp [hy])) hd
 case faddr=>subst ho; exact c8e (hx _ (by simp)) hd
 case aaddr=>subst ho; exact c8a (hx _ (by simp)) hd
 case iaddr=>subst ho; exact c8g (hx _ (by simp)) (hx _ (by simp)) hd
 case ext=>subst ho; exact d94 (hx _ (by simp)) hd
 case fld=>subst ho; exact d95 (hx _ (by simp)) hd
 case tas=>subst ho; exact e0c (hx _ (by simp)) hd
 case len=>subst ho; exact c8h (hx _ (by simp)) hd
 case mkmap=>exact c8i hd
 case mget=>subst ho; exact d17 (hx _ (by simp)) (hx _ (by simp)) hd
 case mset=>subst ho; exact d18 (hx _ (by simp)) (hx _ (by simp)) (hx _ (by simp))
 case app=>subst ho; exact d90 (hx _ (by simp)) (hx _ (by simp)) hd
 case mm mx ts xs2=>
  match xs2,ho with
  | [x,y],ho=>
   simp only [Option.some.injEq] at ho
   subst ho
   exact f1c (hx _ (by simp)) (hx _ (by simp)) hd
open Classical
def a70 (st:St):X->List Nat
 | .t n=>n::(a2r (st.s n)).toList
 | _=>[]
def a0v (st:St):List X->List Nat
 | []=>[]
 | x::xs=>a70 st x++a0v st xs
def slX:X->List Nat
 | .t n=>[n]
 | _=>[]
def slL:List X->List Nat
 | []=>[]
 | x::xs=>slX x++slL xs
theorem b5m {st:St} {x:X}:∀ {xs:List X},x∈xs->∀ t∈a70 st x,t∈a0v st xs
 | y::ys,h,t,ht=>by
  rcases List.mem_cons.1 h with rfl | h
  ·simp [a0v,ht]
  ·simp [a0v,b5m h t ht]
theorem d3w {DL:List Nat} {N:Nat} {st:St} {xs:List X} (h:∀ t∈a0v st xs,t∈DL) (hN:∀ t∈DL,t < N):∀ x∈xs,XO (· ∈DL) N st x:=fun x hx=>{
 t:=fun t ht=>by
  subst ht
  have:=h t (b5m hx t (by simp [a70]))
  exact ⟨this,hN t this⟩
 b:=fun u hu=>by
  cases x with
  | t t=>
   have:=h u (b5m hx u (by simp [a70,show a2r (st.s t)=some u from hu]))
   exact ⟨this,hN u this⟩
  | _=>cases hu }
def fr (N:Nat) (W:List Nat) (st st':St):Prop:=∀ t,t < N->t ∉ W->agr st st' t
section
variable {V:List (Nat×Nat)} {P:Program} {G:GG} {N:Nat} {st st':St} {step:(St->Prop)->St->Prop}
theorem Loc.widen {rd wr DL W:List Nat} (h:Loc P G N V step st st' rd wr) (h1:∀ t∈rd,t∈DL) (h2:∀ t∈wr,t∈DL) (h3:∀ t∈DL,t < N) (h4:∀ t∈W,t < N) (hf:fr N W st st'):Loc P G N V step st st' DL W where
 lt t ht:=ht.elim (h3 t) (h4 t)
 frame t ht hn:=hf t ht hn
 loc st2 hV hst K hK:=h.loc st2 hV (fun t ht=>hst t (.inl (ht.elim (h1 t) (h2 t)))) K fun st2' g1 g2=>hK st2' (fun t ht=>by
   by_cases hw:t∈wr
   ·exact g1 t hw
   ·exact ((h.frame t (h4 t ht) hw).symm.trans (hst t (.inr ht))).trans (g2 t (h4 t ht) hw)) (fun t ht hn=>by
   by_cases hw:t∈wr
   ·exact ((hst t (.inl (h2 t hw))).symm.trans (hf t ht hn)).trans (g1 t hw)
   ·exact g2 t ht hw)
theorem e09 {d:Option Nat} {i:IOp} {xs:List X} {W:List Nat} (ho:b0o i=some xs) (he:evS G N d i st=some st') (hN:∀ t∈d.toList++a0v st xs,t < N) (hW:∀ t∈W,t < N) (hs:c6l N st i) (hf:fr N W st st') :
  Loc P G N V (b3p P G N d (.op i)) st st' (d.toList++a0v st xs) W:=by
 have hx:=d3w (DL:=d.toList++a0v st xs) (st:=st) (xs:=xs) (fun t ht=>by simp [ht]) hN
 have hd:DD (· ∈d.toList++a0v st xs) N d:=fun t ht=>by
  subst ht
  exact ⟨by simp,hN t (by simp)⟩
 unfold evS at he
 cases hr:(a04 G N d i).run st with
 | none=>rw [hr] at he; cases he
 | some r=>
  obtain ⟨u,st1⟩:=r
  rw [hr] at he
  simp only [Option.map,Option.some.injEq] at he
  subst he
  obtain ⟨rd,wr,sw',g1,g2,g3,_⟩:=d99 (sw:=[]) ho hx hd (.inl hs) u st1 hr
  obtain ⟨st2,rd2,wr2,⟨rfl,rfl,rfl⟩,hL⟩:=b5d (V:=V) (P:=P) (G:=G) (N:=N) (d:=d) (act:= .op i) (st:=st) (K:=fun st2 rd2 wr2=>st2=st1/\rd2=rd/\wr2=wr) (by simp only [d7l,g1,and_self])
  exact hL.widen g2 g3 hN hW hf
theorem d2p {d:Nat} {p:Nat×Nat} (hI:a54 V st) (hp:p∈V) (hd:d < N) (he:evS G N (some d) (.mv (.t p.1)) st=some st'):Loc P G N V (b3p P G N (some d) (.op (.mv (.t p.1)))) st st' (some d).toList [d]/\True:=by
 have run:∀ s:St,a54 V s->(a04 G N (some d) (.mv (.t p.1))).run s=some ((),s.put d (.ref p.1 [] 0 p.2)):=by
  intro s hs
  obtain ⟨h1,h2⟩:=hs p hp
  cases hv:s.s p.1<;>simp only [hv,b7x,reduceCtorEq] at h1
  simp only [a04,mvE,Ev.run_bind,a0t,rdv,rde,hv,b1i,Ev.run,setD,a2z,Option.bind,h2]
 have hst:st'=st.put d (.ref p.1 [] 0 p.2):=by
  simp only [evS,run st hI,Option.map,Option.some.injEq] at he
  exact he.symm
 subst hst
 refine ⟨⟨fun t ht=> ?_,fun t ht hn=> ?_,fun st2 hV2 hag K hK=> ?_⟩,trivial⟩
 ·rcases ht with ht | ht<;>simp at ht<;>subst ht<;>exact hd
 ·exact agr.putn _ (by simpa using hn)
 ·simp only [b3p,run st2 hV2]
  refine hK _ (fun t ht=>(hag t (.inr ht)).put _) (fun t ht hn=>agr.putn _ (by simpa using hn))
theorem c80 {d:Option Nat} {i:IOp} {xs:List X} (ho:b0o i=some xs) (he:evS G N d i st=some st') (hN:∀ t∈d.toList++a0v st xs,t < N) :
  Loc P G N V (b3p P G N d (.op i)) st st' (List.range N) (List.range N):=by
 have hx:∀ x∈xs,XO (· < N) N st x:=fun x hx=>by
  have:=d3w (DL:=d.toList++a0v st xs) (st:=st) (xs:=xs) (fun t ht=>by simp [ht]) hN x hx
  exact { t:=fun t ht=>⟨(this.t t ht).2,(this.t t ht).2⟩,b:=fun u hu=>⟨(this.b u hu).2,(this.b u hu).2⟩ }
 have hd:DD (· < N) N d:=fun t ht=>by
  subst ht
  exact ⟨hN t (by simp),hN t (by simp)⟩
 unfold evS at he
 cases hr:(a04 G N d i).run st with
 | none=>rw [hr] at he; cases he
 | some r=>
  obtain ⟨u,st1⟩:=r
  rw [hr] at he
  simp only [Option.map,Option.some.injEq] at he
  subst he
  obtain ⟨rd,wr,sw',g1,g2,g3,_⟩:=d99 (sw:=[]) ho hx hd (.inr fun t ht=>ht) u st1 hr
  obtain ⟨st2,rd2,wr2,⟨rfl,rfl,rfl⟩,hL⟩:=b5d (V:=V) (P:=P) (G:=G) (N:=N) (d:=d) (act:= .op i) (st:=st) (K:=fun st2 rd2 wr2=>st2=st1/\rd2=rd/\wr2=wr) (by simp only [d7l,g1,and_self])
  exact hL.widen (fun t ht=>List.mem_range.2 (g2 t ht)) (fun t ht=>List.mem_range.2 (g3 t ht)) (fun t ht=>List.mem_range.1 ht) (fun t ht=>List.mem_range.1 ht) (fun t ht hn=>absurd (List.mem_range.2 ht) hn)
theorem c8z {d:Option Nat} {f:FuncId} {args:List (Bool×X)} {tys:List TypeId} {st1 st2:St} {res:AV} {W:List Nat} (h1:gvs N (N+2) args (some st)=some st1) (h2:pss N (N+2) args (some st1)=some st2) (hA:ACalls P G f (a4r N args.length st2) res) (hn:noRef res=true)
  (hN:∀ t∈d.toList++a0v st (args.map (·.2)),t < N) (hW:∀ t∈W,t < N) (hf:fr N W st (a85 (if a0w res then st1 else st2) N d res)) :
  Loc P G N V (b3p P G N d (.call f args tys)) st (a85 (if a0w res then st1 else st2) N d res) (d.toList++a0v st (args.map (·.2))) W:=by
 have hx:=d3w (DL:=d.toList++a0v st (args.map (·.2))) (st:=st) (xs:=args.map (·.2)) (fun t ht=>by simp [ht]) hN
 have hx':∀ p∈args,XO (· ∈d.toList++a0v st (args.map (·.2))) N st p.2:=fun p hp=>hx _ (List.mem_map.2 ⟨p,hp,rfl⟩)
 have hd:DD (· ∈d.toList++a0v st (args.map (·.2))) N d:=fun t ht=>by
  subst ht
  exact ⟨by simp,hN t (by simp)⟩
 rw [<-a6m] at h1
 cases hr1:(a4w N (N+2) args).run st with
 | none=>rw [hr1] at h1; cases h1
 | some r1=>
  obtain ⟨u1,st1'⟩:=r1
  rw [hr1] at h1
  simp only [Option.map,Option.some.injEq] at h1
  subst h1
  rw [<-a3r] at h2
  cases hr2:(a3g N (N+2) args).run st1' with
  | none=>rw [hr2] at h2; cases h2
  | some r2=>
   obtain ⟨u2,st2'⟩:=r2
   rw [hr2] at h2
   simp only [Option.map,Option.some.injEq] at h2
   subst h2
   obtain ⟨rd,wr,sw1,a1,a2,a3,hb,_,a4⟩:=c1q (N:=N) (D:=(· ∈d.toList++a0v st (args.map (·.2)))) args (N+2) (st:=st) (sw:=[]) (P:=fun _ st' sw'=>BLe N st st'/\(∀ t∈[],t∈sw')/\(∀ i x,args[i]? =some (true,x)->N+2+i∈sw')) (by omega) hx' (fun st' sw' b1 b2 b3=>⟨b1,b2,b3⟩) u1 st1' hr1
   obtain ⟨rd2,wr2,sw2,c1,c2,c3,c4,c5⟩:=b7v (N:=N) (D:=(· ∈d.toList++a0v st (args.map (·.2)))) args (N+2) (st:=st1') (sw:=sw1) (P:=fun _ st' sw'=>(∀ t∈sw1,t∈sw')/\(∀ i x,args[i]? =some (false,x)->N+2+i∈sw')) (by omega) (fun p hp=>(hx' p hp).le hb) (fun st' sw' b1 b2=>⟨b1,b2⟩) u2 st2' hr2
   have hfin:∃ rd3 wr3 sw3,(b8y N d res).runF N ((if a0w res then st1' else st2').clear N) []=some ⟨(),a85 (if a0w res then st1' else st2') N d res,rd3,wr3,sw3⟩/\(∀ t∈rd3,t∈d.toList++a0v st (args.map (·.2)))/\(∀ t∈wr3,t∈d.toList++a0v st (args.map (·.2))):=by
    cases d with
    | none=>exact ⟨[],[],[],rfl,by simp,by simp⟩
    | some d=>
     obtain ⟨rd3,wr3,sw3,e1,e2,e3,_⟩:=FpP.thru (D:=(· ∈(some d).toList++a0v st (args.map (·.2)))) (N:=N) (st:=(if a0w res then st1' else st2').clear N) (sw:=[]) (d:=some d) (v:=res) (M:=N) (P:=tt) (Nat.le_refl _) hd (fun _ _=>trivial) () _ (by rw [a6n])
     exact ⟨rd3,wr3,sw3,e1,e2,e3⟩
   obtain ⟨rd3,wr3,sw3,e1,e2,e3⟩:=hfin
   obtain ⟨st3,rd4,wr4,⟨rfl,hrd,hwr⟩,hL⟩:=b5d (V:=V) (P:=P) (G:=G) (N:=N) (d:=d) (act:= .call f args tys) (st:=st) (K:=fun s2 r2 w2=>s2=a85 (if a0w res then st1' else st2') N d res/\(∀ t∈r2,t∈d.toList++a0v st (args.map (·.2)))/\(∀ t∈w2,t∈d.toList++a0v st (args.map (·.2)))) (by
    refine ⟨_,_,_,res,a1,c1,hA,hn,e1,fun i hi=> ?_,rfl,fun t ht=> ?_,fun t ht=> ?_⟩
    ·cases ha:args[i]? with
     | none=>simp at ha; omega
     | some p=>
      obtain ⟨b,x⟩:=p
      cases b with
      | true=>exact c4 _ (a4 i x ha)
      | false=>exact c5 i x ha
    ·simp only [List.mem_append] at ht
     rcases ht with ((ht | ht) | ht) | ht
     ·exact a2 t ht
     ·exact c2 t ht
     ·exact c3 t ht
     ·exact e2 t ht
    ·split at ht<;>simp only [List.mem_append] at ht
     ·rcases ht with ht | ht
      ·exact a3 t ht
      ·exact e3 t ht
     ·rcases ht with (ht | ht) | ht
      ·exact a3 t ht
      ·exact c3 t ht
      ·exact e3 t ht)
   exact hL.widen hrd hwr hN hW hf
end
def b7t (st:St) (N:Nat) (T:List (Nat×AV)) (d:Option Nat) (res:AV):St:=match d with
 | some d=>(st.lentS N T).thru N d res
 | none=>st.lentS N T
theorem a8x {α:Type} {T:List (Nat×α)} {t:Nat} {v:α} (h:T.lookup t=some v):(t,v)∈T:=by
 induction T with
 | nil=>simp at h
 | cons p T ih=>
  obtain ⟨u,x⟩:=p
  by_cases h2:t=u
  ·subst h2
   simp at h
   simp [h]
  ·have:(t==u)=false:=by simpa using h2
   simp only [List.lookup_cons,this] at h
   exact List.mem_cons_of_mem _ (ih h)
def c8y:AV->Bool
 | .lit _=>true
 | _=>false
def a4g (rd:List Nat):X->Bool
 | .t n=>rd.contains n
 | _=>true
def b5y (st:St) (rd:List Nat) (args:List (Bool×X)):Bool:=args.all fun p=> !p.1&&(c8y (rdv st p.2)&&a4g rd p.2)
def a1f (st:St) (j:Nat):List (Bool×X)->St
 | []=>st
 | p::ps=>a1f (st.put j (rdv st p.2)) (j+1) ps
mutual
def a2l (rd:List Nat):AV->Bool
 | .ref t _ _ _=>rd.contains t
 | .bor t _ _ _ _=>rd.contains t
 | .fn _ fs cs=>a2i rd fs&&a2i rd cs
 | _=>true
def a2i (rd:List Nat):List AV->Bool
 | []=>true
 | k::ks=>a2l rd k&&a2i rd ks
end
def b70 (st:St) (rd:List Nat) (n:Nat) (lay:List CS):Bool:=lay.all fun
 | .p k=>decide (k < n)
 | .x y=>a4g rd y&&a2l rd (xv st y)
 | .l _=>false
theorem c5g {v:AV} (h:c8y v=true):∃ u,v= .lit u:=by cases v<;>simp [c8y] at h; exact ⟨_,rfl⟩
theorem c0y {st:St} {j N:Nat} {v:AV} {x:X} (hx:∀ n,x= .t n->n < N) (hj:N<=j):rdv (st.put j v) x=rdv st x:=by
 cases x with
 | t n=>have:=hx n rfl; simp [rdv,show n≠j by omega]
 | _=>rfl
theorem a9y {N:Nat}:∀ (args:List (Bool×X)) (j:Nat) (st:St),(args.all fun p=> !p.1)=true->(a4w N j args).run st=some ((),st)
 | [],j,st,_=>rfl
 | (g,x)::xs,j,st,h=>by
  simp only [List.all_cons,Bool.and_eq_true,Bool.not_eq_true'] at h
  obtain ⟨rfl,h2⟩:=h
  simp only [a4w,Bool.false_eq_true,if_false,Ev.run_bind,Ev.run_pure,Option.bind]
  exact a9y xs (j+1) st h2
theorem a8g {N:Nat}:∀ (args:List (Bool×X)) (j:Nat) (st:St),N<=j->(∀ p∈args,p.1=false/\c8y (rdv st p.2)=true/\∀ n,p.2= .t n->n < N)->(a3g N j args).run st=some ((),a1f st j args)
 | [],j,st,_,_=>rfl
 | (g,x)::xs,j,st,hj,h=>by
  obtain ⟨h1,h2,h3⟩:=h _ (List.mem_cons_self ..)
  simp only at h1 h2 h3
  subst h1
  obtain ⟨u,hu⟩:=c5g h2
  have hp:(b6f N x j).run st=some ((),st.put j (rdv st x)):=by
   unfold b6f
   simp only [Ev.run_bind,a0t,hu,Option.bind,noRef,a0f,if_true]
   cases x<;>simp [a29,a0n,frz,a5t]
  simp only [a3g,Bool.false_eq_true,if_false,Ev.run_bind,hp,Option.bind,a1f]
  refine a8g xs (j+1) _ (by omega) fun p hp2=> ?_
  obtain ⟨k1,k2,k3⟩:=h p (List.mem_cons_of_mem _ hp2)
  exact ⟨k1,by rw [c0y k3 hj]; exact k2,k3⟩
theorem a9s {N:Nat}:∀ (args:List (Bool×X)) (j:Nat) (st:St),(∀ t,t < j->(a1f st j args).s t=st.s t)
 | [],j,st,t,_=>rfl
 | p::ps,j,st,t,ht=>by
  rw [a1f,a9s (N:=N) ps (j+1) _ t (by omega)]
  simp [show t≠j by omega]
theorem b20:∀ (args:List (Bool×X)) (j:Nat) (st:St) (N:Nat),N<=j->(∀ p∈args,c8y (rdv st p.2)=true/\∀ n,p.2= .t n->n < N)->∀ t,(a1f st j args).ep t=st.ep t
 | [],j,st,N,_,_,t=>rfl
 | p::ps,j,st,N,hj,h,t=>by
  obtain ⟨h1,h2⟩:=h _ (List.mem_cons_self ..)
  obtain ⟨u,hu⟩:=c5g h1
  rw [a1f,b20 ps (j+1) _ N (by omega) (fun q hq=>by
   obtain ⟨k1,k2⟩:=h q (List.mem_cons_of_mem _ hq)
   exact ⟨by rw [c0y k2 hj]; exact k1,k2⟩) t]
  simp [hu,St.put_ep,a0p]
theorem a73 {N:Nat}:∀ (args:List (Bool×X)) (j:Nat) (st:St),N<=j->(∀ p∈args,∀ n,p.2= .t n->n < N)->∀ i p,args[i]? =some p->(a1f st j args).s (j+i)=rdv st p.2
 | [],j,st,_,_,i,p,h=>by simp at h
 | q::ps,j,st,hj,hx,i,p,h=>by
  rw [a1f]
  cases i with
  | zero=>
   simp only [List.getElem?_cons_zero,Option.some.injEq] at h
   subst h
   rw [a9s (N:=N) ps (j+1) _ (j+0) (by omega)]
   simp
  | succ i=>
   have:=a73 ps (j+1) (st.put j (rdv st q.2)) (by omega) (fun p hp=>hx p (List.mem_cons_of_mem _ hp)) i p (by simpa using h)
   rw [show j+(i+1)=j+1+i by omega,this]
   exact c0y (hx p (List.mem_cons_of_mem _ (List.mem_of_getElem? (by simpa using h)))) hj
mutual
theorem b8t {stA stB:St} {rd:List Nat} {L:List (Nat×Nat)} (h:∀ t,t∈rd->stB.ep t=stA.ep t):∀ av,a2l rd av=true->trA stB L av=trA stA L av
 | .ref t q o e,hr=>by
  simp only [a2l,List.contains_iff_mem] at hr
  simp only [trA,h t hr]
 | .fn f fs cs,hr=>by
  simp only [a2l,Bool.and_eq_true] at hr
  simp only [trA,b3h h fs hr.1,b3h h cs hr.2]
 | .bor _ _ _ _ _,_=>by simp only [trA]
 | .dead,_ | .lit _,_ | .sl _ _,_ | .ip _ _,_ | .own _ _ _,_ | .var _,_ | .agg _,_ | .tup _,_ | .ifc _ _,_ | .mp _ _,_ | .loan _,_=>by simp only [trA]
theorem b3h {stA stB:St} {rd:List Nat} {L:List (Nat×Nat)} (h:∀ t,t∈rd->stB.ep t=stA.ep t):∀ ks,a2i rd ks=true->trL stB L ks=trL stA L ks
 | [],_=>by simp only [trL]
 | k::ks,hr=>by
  simp only [a2i,Bool.and_eq_true] at hr
  simp only [trL,b8t h k hr.1,b3h h ks hr.2]
end
theorem b6d {N:Nat} {s1 s2 t1 t2:St} {rd:List Nat} (h:∀ t,t∈rd->t1.s t=s1.s t/\t2.s t=s2.s t/\t2.ep t=s2.ep t):∀ (es:List (Option Nat×AV)) (acc:List AV) (L:List (Nat×Nat)),(∀ p∈es,a2l rd p.2=true)->pX N t1 t2 acc L es=pX N s1 s2 acc L es
 | [],acc,L,_=>by simp only [pX]
 | (some k,av)::es,acc,L,hr=>by
  have ih:∀ a l,pX N t1 t2 a l es=pX N s1 s2 a l es:=fun a l=>b6d h es a l fun p hp=>hr p (List.mem_cons_of_mem _ hp)
  simp only [pX,ih]
 | (none,av)::es,acc,L,hr=>by
  have ih:∀ a l,pX N t1 t2 a l es=pX N s1 s2 a l es:=fun a l=>b6d h es a l fun p hp=>hr p (List.mem_cons_of_mem _ hp)
  have h0:=hr _ (List.mem_cons_self ..)
  simp only at h0
  have gen:∀ av,a2l rd av=true->trA t2 L av=trA s2 L av:=fun av ha=>b8t (fun t ht=>(h t ht).2.2) av ha
  cases av with
  | ref t q o e=>
   have ht:t∈rd:=by simpa [a2l] using h0
   obtain ⟨a1,a2,a3⟩:=h t ht
   cases q with
   | nil=>
    cases o with
    | zero=>simp only [pX,ih,a1,a2,a3]
    | succ o=>simp only [pX,gen _ h0,ih]
   | cons i q=>simp only [pX,gen _ h0,ih]
  | bor t q lo n e=>
   have ht:t∈rd:=by simpa [a2l] using h0
   obtain ⟨a1,a2,a3⟩:=h t ht
   cases q with
   | nil=>
    cases lo with
    | zero=>simp only [pX,ih,a1,a2,a3]
    | succ o=>simp only [pX,gen _ h0,ih]
   | cons i q=>simp only [pX,gen _ h0,ih]
  | _=>simp only [pX,gen _ h0,ih]
theorem c5i {V:List (Nat×Nat)} {P:Program} {G:GG} {N:Nat} {st:St} {d:Option Nat} {cv:X} {args:List (Bool×X)} {lay:List CS} {tys:List TypeId} {f:FuncId} {fs cs pre:List AV} {L:List (Nat×Nat)} {res:AV} {posts:List (Nat×AV)} {rd:List Nat}
  (ha:b5y st rd args=true) (hcv:a4g rd cv=true) (hfn:xv st cv= .fn f fs cs) (hfB:fnB P f=true) (hri:(a2i rd fs&&a2i rd cs)=true) (hlay:b70 st rd args.length lay=true)
  (hpx:pX N st (a1f st (N+2) args) [] [] (b39 N (a1f st (N+2) args) fs lay cs)=some (pre,L)) (hA:ACallsX P G f pre res posts) (hnr:noRef res=true) (hpo:posts.map (·.1)=L.map (·.2)) (hvar:∀ i av,(i,av)∈posts->∃ ks,av= .var ks/\a0m ks=true/\∃ ks0,pre[i]? =some (.var ks0))
  (hrd:∀ t∈rd,t < N) (hd:∀ t∈d.toList,t < N) (hL:∀ t∈L.map (·.1),t < N/\t∈rd) :
  Loc P G N V (b3p P G N d (.callx cv args lay tys)) st (b7t st N ((L.map (·.1)).zip (posts.map (·.2))) d res) (d.toList++rd) (d.toList++L.map (·.1)):=by
 have hT:∀ t q,a7j ((L.map (·.1)).zip (posts.map (·.2))) t q=false:=by
  intro t q
  unfold a7j
  split
  ·rename_i i q' ks hl
   have hm:=(List.of_mem_zip (a8x hl)).2
   obtain ⟨p,hp,hpe⟩:=List.mem_map.1 hm
   obtain ⟨ks',he,hno,_⟩:=hvar p.1 p.2 hp
   rw [hpe] at he
   injection he with he
   subst he
   simp [hno]
  ·rename_i i q' sz n ks hl
   have hm:=(List.of_mem_zip (a8x hl)).2
   obtain ⟨p,hp,hpe⟩:=List.mem_map.1 hm
   obtain ⟨ks',he,_⟩:=hvar p.1 p.2 hp
   rw [hpe] at he
   cases he
  ·rfl
 have run:∀ s:St,(∀ t,t∈d.toList++rd\/t∈d.toList++L.map (·.1)->agr st s t)->∀ K:St->Prop,K (b7t s N ((L.map (·.1)).zip (posts.map (·.2))) d res)->b3p P G N d (.callx cv args lay tys) K s:=by
  intro s hag K hK
  have hrs:∀ t,t∈rd->agr st s t:=fun t ht=>hag t (.inl (List.mem_append.2 (.inr ht)))
  have hx:∀ x,a4g rd x=true->rdv s x=rdv st x/\xv s x=xv st x/\∀ n,x= .t n->n < N:=fun x hx=>by
   cases x with
   | t n=>
    have hn:n∈rd:=by simpa [a4g] using hx
    refine ⟨(hrs n hn).1,(hrs n hn).1,fun m hm=> ?_⟩
    injection hm with hm
    subst hm
    exact hrd _ hn
   | _=>exact ⟨rfl,rfl,fun _ h=>by cases h⟩
  have hargs:∀ p∈args,p.1=false/\c8y (rdv s p.2)=true/\(∀ n,p.2= .t n->n < N)/\rdv s p.2=rdv st p.2:=fun p hp=>by
   have:=List.all_eq_true.1 ha p hp
   simp only [Bool.and_eq_true,Bool.not_eq_true'] at this
   obtain ⟨k1,k2,k3⟩:=this
   obtain ⟨e1,_,e3⟩:=hx _ k3
   exact ⟨k1,by rw [e1]; exact k2,e3,e1⟩
  have hargs0:∀ p∈args,c8y (rdv st p.2)=true/\∀ n,p.2= .t n->n < N:=fun p hp=>by
   obtain ⟨_,k2,k3,k4⟩:=hargs p hp
   exact ⟨by rw [<-k4]; exact k2,k3⟩
  have hg:=a9y (N:=N) args (N+2) s (List.all_eq_true.2 fun p hp=>by simp [(hargs p hp).1])
  have hp:=a8g (N:=N) args (N+2) s (by omega) fun p hp=>⟨(hargs p hp).1,(hargs p hp).2.1,(hargs p hp).2.2.1⟩
  have hep:=b20 args (N+2) s N (by omega) fun p hp=>⟨(hargs p hp).2.1,(hargs p hp).2.2.1⟩
  have hep0:=b20 args (N+2) st N (by omega) hargs0
  have hps:=a9s (N:=N) args (N+2) s
  have hps0:=a9s (N:=N) args (N+2) st
  have hxv:∀ (s:St) (y:X),(∀ n,y= .t n->n < N)->xv (a1f s (N+2) args) y=xv s y:=fun s y hy=>by
   cases y with
   | t n=>exact a9s (N:=N) args (N+2) s n (by have:=hy n rfl; omega)
   | _=>rfl
  have hcv2:xv (a1f s (N+2) args) cv= .fn f fs cs:=by rw [hxv s cv (hx cv hcv).2.2,(hx cv hcv).2.1]; exact hfn
  have hlay2:lay.map (c1g N (a1f s (N+2) args))=lay.map (c1g N (a1f st (N+2) args)):=by
   apply List.map_congr_left
   intro c hc
   have:=List.all_eq_true.1 hlay c hc
   cases c with
   | p k=>
    have hk:k < args.length:=by simpa using this
    have h1:=a73 (N:=N) args (N+2) s (by omega) (fun p hp=>(hargs p hp).2.2.1) k args[k] (by simp [hk])
    have h2:=a73 (N:=N) args (N+2) st (by omega) (fun p hp=>(hargs p hp).2.2.1) k args[k] (by simp [hk])
    simp only [c1g,h1,h2,(hargs _ (List.getElem_mem hk)).2.2.2]
   | x y=>
    simp only [Bool.and_eq_true] at this
    have hy:=hx y this.1
    simp only [c1g,hxv s y hy.2.2,hxv st y hy.2.2,hy.2.1]
   | l t=>cases this
  have heff:b39 N (a1f s (N+2) args) fs lay cs=b39 N (a1f st (N+2) args) fs lay cs:=by simp only [b39,hlay2]
  simp only [Bool.and_eq_true] at hri
  have hrefL:∀ ks:List AV,a2i rd ks=true->∀ k∈ks,a2l rd k=true:=by
   intro ks
   induction ks with
   | nil=>intro _ k hk; simp at hk
   | cons k ks ih=>
    intro h k' hk'
    simp only [a2i,Bool.and_eq_true] at h
    rcases List.mem_cons.1 hk' with rfl | hk'
    ·exact h.1
    ·exact ih h.2 k' hk'
  have hrefs:∀ p∈b39 N (a1f st (N+2) args) fs lay cs,a2l rd p.2=true:=by
   intro p hp
   simp only [b39,List.mem_append,List.mem_map] at hp
   rcases hp with ⟨k,hk,rfl⟩ | ⟨c,hc,rfl⟩ | ⟨k,hk,rfl⟩
   ·exact hrefL fs hri.1 k hk
   ·have:=List.all_eq_true.1 hlay c hc
    cases c with
    | p k=>
     have hk:k < args.length:=by simpa using this
     have h2:=a73 (N:=N) args (N+2) st (by omega) (fun p hp=>(hargs p hp).2.2.1) k args[k] (by simp [hk])
     obtain ⟨u,hu⟩:=c5g (hargs0 _ (List.getElem_mem hk)).1
     simp only [c1g,h2,hu,a2l]
    | x y=>
     simp only [Bool.and_eq_true] at this
     simp only [c1g,hxv st y (hx y this.1).2.2]
     exact this.2
    | l t=>cases this
   ·exact hrefL cs hri.2 k hk
  have hpx2:pX N s (a1f s (N+2) args) [] [] (b39 N (a1f s (N+2) args) fs lay cs)=some (pre,L):=by
   rw [heff,<-hpx]
   exact b6d (rd:=rd) (fun t ht=>⟨(hrs t ht).1,by rw [hps t (by have:=hrd t ht; omega),hps0 t (by have:=hrd t ht; omega)]; exact (hrs t ht).1,by rw [hep,hep0]; exact (hrs t ht).2⟩) _ _ _ hrefs
  have heq:∀ c:Bool,(if c=true then s else a1f s (N+2) args).lentS N ((L.map (·.1)).zip (posts.map (·.2)))=s.lentS N ((L.map (·.1)).zip (posts.map (·.2))):=by
   intro c
   cases c
   ·refine St.ext' (fun u=> ?_) (fun u=>hep u)
    simp only [St.lentS,Bool.false_eq_true,if_false]
    by_cases hu:u < N
    ·simp only [hu,if_true,hps u (by omega)]
    ·simp only [hu,if_false]
   ·rfl
  simp only [b3p,c1b]
  refine ⟨f,fs,cs,s,a1f s (N+2) args,L,pre,res,posts,_,hg,hp,hcv2,hfB,hpx2,hA,hnr,hpo,fun i av hm=>(by obtain ⟨ks,rfl,_,ks0,h0⟩:=hvar i av hm; exact ⟨_,h0,trivial⟩),?_,hK⟩
  rw [heq]
  cases d with
  | none=>simp only [b8y,Ev.run_pure,b7t]
  | some d=>simp only [b8y,a6n,b7t]
 have low:∀ s:St,∀ t,t < N->t ∉ d.toList++L.map (·.1)->agr s (b7t s N ((L.map (·.1)).zip (posts.map (·.2))) d res) t:=by
  intro s t ht hn
  simp only [List.mem_append,not_or] at hn
  have hlk:((L.map (·.1)).zip (posts.map (·.2))).lookup t=none:=by
   cases hl:((L.map (·.1)).zip (posts.map (·.2))).lookup t with
   | none=>rfl
   | some av=>exact absurd (List.of_mem_zip (a8x hl)).1 hn.2
  have hlent:agr s (s.lentS N ((L.map (·.1)).zip (posts.map (·.2)))) t:=by
   refine ⟨?_,rfl⟩
   simp only [St.lentS,ht,if_true,hlk]
   have:a7j ((L.map (·.1)).zip (posts.map (·.2)))=fun _ _=>false:=by funext a b; exact hT a b
   rw [this,a3m]
  cases d with
  | none=>exact hlent
  | some d=>
   have htd:t≠d:=by simpa using hn.1
   simp only [b7t]
   exact ((hlent.trans (agr.putn _ (by omega))).trans (agr.putn _ (by omega))).trans (agr.putn _ htd)
 refine ⟨fun t ht=> ?_,fun t ht hn=>low st t ht hn,fun s _ hag K hK=>run s hag K (hK _ (fun t ht=> ?_) fun t ht hn=>low s t ht hn)⟩
 ·rcases ht with ht | ht<;>rcases List.mem_append.1 ht with ht | ht
  ·exact hd t ht
  ·exact hrd t ht
  ·exact hd t ht
  ·exact (hL t ht).1
 ·have hgt:=hag t (.inr ht)
  have htN:t < N:=by
   rcases List.mem_append.1 ht with ht | ht
   ·exact hd t ht
   ·exact (hL t ht).1
  have hlent:agr (st.lentS N ((L.map (·.1)).zip (posts.map (·.2)))) (s.lentS N ((L.map (·.1)).zip (posts.map (·.2)))) t:=by
   refine ⟨?_,hgt.2⟩
   simp only [St.lentS,htN,if_true,hgt.1]
  cases d with
  | none=>exact hlent
  | some d=>
   simp only [b7t]
   exact ((hlent.put _).put _).put _
def wrE (v:AV) (x:X):List Nat:=if a0n v=true then [] else slX x
def Wop (st:St) (d:Option Nat):IOp->List Nat
 | .asg x=>d.toList++a70 st x
 | .mva x=>d.toList++slX x
 | .mvf x=>d.toList++slX x
 | .box _ _ x=>d.toList++slX x
 | .build _ _ parts=>d.toList++slL (parts.map fun p=>p.2.2.2)
 | .bslice _ _ _ _ _ parts=>d.toList++slL (parts.map fun p=>p.2)
 | .store _ _ x y=>a70 st x++slX y
 | .app _ _ _ _ x y=>d.toList++a0v st [x,y]
 | .mki _ x=>d.toList++slX x
 | .ext x _=>d.toList++wrE (rdv st x) x
 | .mset _ _ x _ _=>a70 st x
 | _=>d.toList
def c6y (b:Bool) (p q:Prop):Prop:=if b then p else q
abbrev DA:=List (List Nat)×List (Nat×Nat)
def a56 (V:List (Nat×Nat)) (st:St) (xs:List X):IOp->List Nat
 | .mv (.t t)=>if V.any (fun p=>p.1==t) then [] else a0v st xs
 | _=>a0v st xs
def e93 (N:Nat) (aft:DA) (fps:List (List Nat×List Nat)) (K:St->Prop) (st:St):Prop:=b4i aft.1 fps=true/\∀ st',(∀ t,t < N->agr st st' t)->K st'
section
variable (P:Program) (G:GG) (N:Nat) (aft:DA)
def c4j (ex:List Nat) (d:Option Nat) (act:IAct) (fps:List (List Nat×List Nat)) (Kn:List (List Nat×List Nat)->St->Prop) (st:St):Prop:=match act with
 | .op i=>match b0o i,evS G N d i st with
  | some xs,some st'=>c6y (d67 N st i) ((∀ t∈ex++(d.toList++a0v st xs),t < N)/\(∀ t∈Wop st d i,t < N)/\fr N (Wop st d i) st st'/\Kn (fps++[(ex++(d.toList++a56 aft.2 st xs i),Wop st d i)]) st')
   ((∀ t∈ex++(d.toList++a0v st xs),t < N)/\Kn (fps++[(ex++List.range N,List.range N)]) st')
  | _,_=>False
 | .call f args _=>match gvs N (N+2) args (some st) with
  | some st1=>match pss N (N+2) args (some st1) with
   | some st2=>∃ res W,ACalls P G f (a4r N args.length st2) res/\noRef res=true/\(∀ t∈ex++(d.toList++a0v st (args.map (·.2))),t < N)/\(∀ t∈W,t < N)/\fr N W st (a85 (if a0w res then st1 else st2) N d res)/\
    Kn (fps++[(ex++(d.toList++a0v st (args.map (·.2))),W)]) (a85 (if a0w res then st1 else st2) N d res)
   | none=>False
  | none=>False
 | .callx cv args lay _=>∃ f fs cs pre L res posts rd,b5y st rd args=true/\a4g rd cv=true/\xv st cv= .fn f fs cs/\fnB P f=true/\(a2i rd fs&&a2i rd cs)=true/\b70 st rd args.length lay=true/\
   pX N st (a1f st (N+2) args) [] [] (b39 N (a1f st (N+2) args) fs lay cs)=some (pre,L)/\ACallsX P G f pre res posts/\noRef res=true/\posts.map (·.1)=L.map (·.2)/\(∀ i av,(i,av)∈posts->∃ ks,av= .var ks/\a0m ks=true/\∃ ks0,pre[i]? =some (.var ks0))/\
   (∀ t∈ex++rd,t < N)/\(∀ t∈d.toList,t < N)/\(∀ t∈L.map (·.1),t < N/\t∈rd)/\Kn (fps++[(ex++(d.toList++rd),d.toList++L.map (·.1))]) (b7t st N ((L.map (·.1)).zip (posts.map (·.2))) d res)
 | .nilq _ _ _=>False
 | .bad _=>False
def a55:List AO->List (List Nat×List Nat)->(St->Prop)->St->Prop
 | [],fps,K,st=>e93 N aft fps K st
 | io::rest,fps,K,st=>match io.g with
  | none=>c4j P G N aft [] io.dst io.act fps (fun fps st=>a54 aft.2 st/\a55 rest fps K st) st
  | some (_,t,want)=>match st.s t with
   | .lit v=>if b3y want v then c4j P G N aft [t] io.dst io.act fps (fun fps st=>a54 aft.2 st/\a55 rest fps K st) st else (∀ u∈t::io.dst.toList,u < N)/\a54 aft.2 (a2v io.dst st)/\a55 rest (fps++[([t],io.dst.toList)]) K (a2v io.dst st)
   | _=>False
end
section
variable {P:Program} {G:GG} {N:Nat} {aft:DA}
theorem c1h {ex:List Nat} {d:Option Nat} {act:IAct} {fps:List (List Nat×List Nat)} {Kn:List (List Nat×List Nat)->St->Prop} {st:St} (hI:a54 aft.2 st) (h:c4j P G N aft ex d act fps Kn st):∃ st' rd wr,Loc P G N aft.2 (b3p P G N d act) st st' rd wr/\(∀ t∈ex,t < N)/\Kn (fps++[(ex++rd,wr)]) st':=by
 cases act with
 | op i=>
  simp only [c4j] at h
  split at h
  ·rename_i xs st' ho he
   unfold c6y at h
   split at h
   ·rename_i hb
    obtain ⟨h1,h2,h4,h5⟩:=h
    have gen:a56 aft.2 st xs i=a0v st xs->∃ st' rd wr,Loc P G N aft.2 (b3p P G N d (.op i)) st st' rd wr/\(∀ t∈ex,t < N)/\Kn (fps++[(ex++rd,wr)]) st':=fun e=>⟨st',_,_,e09 (V:=aft.2) ho he (fun t ht=>h1 t (List.mem_append.2 (.inr ht))) h2 (d3r hb) h4,fun t ht=>h1 t (List.mem_append.2 (.inl ht)),by rw [e] at h5; exact h5⟩
    by_cases hm:∃ t,i= .mv (.t t)/\(aft.2.any fun p=>p.1==t)=true
    ·obtain ⟨t,rfl,ht⟩:=hm
     have e:a56 aft.2 st xs (.mv (.t t))=[]:=by simp only [a56,ht,if_true]
     rw [e,List.append_nil] at h5
     obtain ⟨p,hp,hpt⟩:=List.any_eq_true.1 ht
     have hpt:p.1=t:=by simpa using hpt
     subst hpt
     cases d with
     | none=>
      exfalso
      have:=(hI p hp).1
      cases hv:st.s p.1<;>simp only [hv,b7x,reduceCtorEq] at this
      simp [evS,a04,mvE,Ev.run_bind,a0t,rdv,hv,b1i,Ev.run,setD,Option.bind] at he
     | some d=>
      obtain ⟨q1,q2⟩:=d2p (P:=P) (G:=G) (N:=N) hI hp (h2 d (by simp [Wop])) he
      exact ⟨st',_,_,q1,fun t ht=>h1 t (List.mem_append.2 (.inl ht)),h5⟩
    ·refine gen ?_
     unfold a56
     split
     ·rename_i t
      rw [if_neg]
      intro hc
      exact hm ⟨t,rfl,hc⟩
     ·rfl
   ·obtain ⟨h1,h5⟩:=h
    exact ⟨st',_,_,c80 ho he (fun t ht=>h1 t (List.mem_append.2 (.inr ht))),fun t ht=>h1 t (List.mem_append.2 (.inl ht)),h5⟩
  ·exact h.elim
 | call f args tys=>
  simp only [c4j] at h
  split at h
  ·rename_i st1 hg
   split at h
   ·rename_i st2 hp
    obtain ⟨res,W,h1,h2,h3,h4,h5,h6⟩:=h
    exact ⟨_,_,_,c8z hg hp h1 h2 (fun t ht=>h3 t (List.mem_append.2 (.inr ht))) h4 h5,fun t ht=>h3 t (List.mem_append.2 (.inl ht)),h6⟩
   ·exact h.elim
  ·exact h.elim
 | callx cv args lay tys=>
  simp only [c4j] at h
  obtain ⟨f,fs,cs,pre,L,res,posts,rd,h1,h2,h3,h4,h5,h6,h7,h8,h9,h10,h11,h12,h13,h14,h15⟩:=h
  exact ⟨_,_,_,c5i h1 h2 h3 h4 h5 h6 h7 h8 h9 h10 h11 (fun t ht=>h12 t (List.mem_append.2 (.inr ht))) h13 h14,fun t ht=>h12 t (List.mem_append.2 (.inl ht)),h15⟩
 | nilq T x yT=>exact h.elim
 | bad o=>exact h.elim
theorem a6b:∀ (ios:List AO) (fps:List (List Nat×List Nat)) (K:St->Prop) (st:St),a54 aft.2 st->a55 P G N aft ios fps K st->dCh P G N aft.2 ios fps (fun stn fps=>b4i aft.1 fps=true/\∀ st',(∀ t,t < N->agr stn st' t)->K st') st
 | [],fps,K,st,hI,h=>h
 | io::rest,fps,K,st,hI,h=>by
  simp only [a55] at h
  simp only [dCh]
  cases hg:io.g with
  | none=>
   simp only [hg] at h
   obtain ⟨st',rd,wr,hL,_,hI',hK⟩:=c1h hI h
   refine ⟨st',rd,wr,?_,hI',by simpa using a6b rest _ K st' hI' hK⟩
   have:a8n P G N io=b3p P G N io.dst io.act:=by funext K st; simp only [a8n,hg]
   rw [this]; exact hL
  | some g=>
   obtain ⟨j,t,want⟩:=g
   simp only [hg] at h
   split at h
   ·rename_i v hv
    split at h
    ·rename_i hw
     obtain ⟨st',rd,wr,hL,hex,hI',hK⟩:=c1h hI h
     refine ⟨st',t::rd,wr,?_,hI',by simpa using a6b rest _ K st' hI' hK⟩
     exact {
      lt:=fun u hu=>by
       rcases hu with hu | hu
       ·rcases List.mem_cons.1 hu with rfl | hu
        ·exact hex _ (by simp)
        ·exact hL.lt u (.inl hu)
       ·exact hL.lt u (.inr hu)
      frame:=hL.frame
      loc:=fun st2 hV2 hst K2 hK2=>by
       have h1:st2.s t= .lit v:=by rw [(hst t (.inl (by simp))).1,hv]
       simp only [a8n,hg,h1,hw,if_true]
       exact hL.loc st2 hV2 (fun u hu=>hst u (hu.imp (List.mem_cons_of_mem _) id)) K2 hK2 }
    ·rename_i hw
     obtain ⟨hN,hI',hK⟩:=h
     refine ⟨_,_,_,?_,hI',a6b rest _ K _ hI' hK⟩
     exact {
      lt:=fun u hu=>hN u (by rcases hu with hu | hu<;>simp at hu ⊢<;>simp [hu])
      frame:=fun u hu hn=>by
       cases hd:io.dst with
       | none=>simp only [a2v]; exact agr.refl _ _
       | some d=>
        simp only [a2v]
        refine agr.putn _ ?_
        rintro rfl
        exact hn (by simp [hd])
      loc:=fun st2 hV2 hst K2 hK2=>by
       have h1:st2.s t= .lit v:=by rw [(hst t (.inl (by simp))).1,hv]
       simp only [a8n,hg,h1,hw,Bool.false_eq_true,if_false]
       cases hd:io.dst with
       | none=>
        rw [hd] at hK2
        simp only [a2v] at hK2 ⊢
        exact hK2 _ (fun u hu=>by simp at hu) (fun u _ _=>agr.refl _ _)
       | some d=>
        rw [hd] at hK2 hst
        simp only [a2v] at hK2 ⊢
        refine hK2 _ (fun u hu=> ?_) (fun u _ hn=>agr.putn _ (by rintro rfl; exact hn (by simp)))
        have:u=d:=by simpa using hu
        subst this
        exact (hst u (.inr (by simp))).put _ }
   ·exact h.elim
end
end Go.Ideal
end
