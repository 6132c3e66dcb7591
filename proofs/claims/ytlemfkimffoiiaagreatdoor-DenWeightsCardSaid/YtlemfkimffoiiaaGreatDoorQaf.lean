/- Part Qaf of the proof: walks on a machine that is proved sound. -/
import Derived.Test.YtlemfkimffoiiaaGreatDoorQae
set_option linter.unusedVariables false
set_option linter.unusedSimpArgs false
section
namespace Go.Ideal
section
variable {G:GG} {N d:Nat} {st:St}
def tkB (st:St) (N t:Nat) (q:List Nat) (lo n:Nat) (k:Option AV):Option (St×Nat×Nat×List AV):=match k with
 | some (.own sz n0 ks)=>gO (lo=0/\t < N/\n<=n0) (some (st.set t (a0r (st.s t) q .dead),sz,n,ks.take (n*sz)))
 | _=>none
@[congr] theorem e6u {t:Nat} {q:List Nat} {lo n:Nat} {k k':Option AV} (h:k=k'):tkB st N t q lo n k=tkB st N t q lo n k':=by rw [h]
@[go_sem] theorem f8p {t:Nat} {q:List Nat} {lo n sz n0:Nat} {ks:List AV}:tkB st N t q lo n (some (.own sz n0 ks))=gO (lo=0/\t < N/\n<=n0) (some (st.set t (a0r (st.s t) q .dead),sz,n,ks.take (n*sz))):=(rfl)
def tkS (st:St) (N:Nat) (x:X) (v:AV):Option (St×Nat×Nat×List AV):=match v with
 | .own sz n ks=>match x with
  | .t t=>some (st.put t .dead,sz,n,ks)
  | _=>some (st,sz,n,ks)
 | .bor t q lo n e=>tkB st N t q lo n (a2a st t q e)
 | _=>none
@[congr] theorem e6v {x:X} {v v':AV} (h:v=v'):tkS st N x v=tkS st N x v':=by rw [h]
@[go_sem] theorem f8r {t sz n:Nat} {ks:List AV}:tkS st N (.t t) (.own sz n ks)=some (st.put t .dead,sz,n,ks):=(rfl)
@[go_sem] theorem g2l {t sz n:Nat} {ks:List AV}:tkS st N (.nl t) (.own sz n ks)=some (st,sz,n,ks):=(rfl)
@[go_sem] theorem f8q {x:X} {t:Nat} {q:List Nat} {lo n e:Nat}:tkS st N x (.bor t q lo n e)=tkB st N t q lo n (a2a st t q e):=(rfl)
theorem b96 (x:X):(c2r x N).run st=(tkS st N x (rdv st x)).map fun r=>((),r.1.put N (.own r.2.1 r.2.2.1 r.2.2.2)):=by
 simp only [c2r,Ev.run_bind,a0u,Option.bind]
 cases hv:rdv st x<;>try rfl
 ·cases x<;>rfl
 ·rename_i t q lo n e
  simp only [tkS,Ev.run_bind,a1m,Option.bind,a0g]
  by_cases he:e=st.ep t
  ·subst he
   simp only [a2a,if_true,beq_self_eq_true,Bool.true_and]
   cases hk:a0f (st.s t) q with
   | none=>
    simp only [tkB,Option.map]
    generalize (lo==0&&decide (t < N))=b
    cases b
    ·rfl
    ·simp only [if_true,a00,hk]; rfl
   | some k=>
    by_cases h1:lo=0
    ·by_cases h2:t < N
     ·simp only [h1,h2,beq_self_eq_true,decide_true,Bool.and_self,if_true,a00,hk,Option.map]
      cases k<;>try rfl
      rename_i sz n0 ks
      simp only [tkB,gO,Ev.run_bind,a0g,Option.bind,h2,true_and]
      by_cases h3:n<=n0
      ·simp only [h3,decide_true,if_true]; rfl
      ·simp only [h3,decide_false,Bool.false_eq_true,if_false]
     ·simp only [h2,decide_false,Bool.and_false,Bool.false_eq_true,if_false]
      cases k<;>try rfl
      simp only [tkB,gO,h2,false_and,and_false,if_false]; rfl
    ·have:(lo==0)=false:=by simpa using h1
     simp only [this,Bool.false_and,Bool.false_eq_true,if_false]
     cases k<;>try rfl
     simp only [tkB,gO,h1,false_and,if_false]; rfl
  ·have:(e==st.ep t)=false:=by simpa using he
   simp only [this,Bool.false_and,Bool.false_eq_true,if_false,a2a,he]; rfl
def srB (st:St) (N t:Nat) (q:List Nat) (lo n:Nat) (k:Option AV):Option (St×AV):=match k with
 | some (.own sz n0 ks)=>gO (t < N/\lo+n<=n0) (some (st.set t (a0r (st.s t) q (frz (.own sz n0 ks))),.sl n (((a1k ks).drop (lo*sz)).take (n*sz))))
 | _=>none
@[congr] theorem e6n {t:Nat} {q:List Nat} {lo n:Nat} {k k':Option AV} (h:k=k'):srB st N t q lo n k=srB st N t q lo n k':=by rw [h]
@[go_sem] theorem f8d {t:Nat} {q:List Nat} {lo n sz n0:Nat} {ks:List AV}:srB st N t q lo n (some (.own sz n0 ks))=gO (t < N/\lo+n<=n0) (some (st.set t (a0r (st.s t) q (frz (.own sz n0 ks))),.sl n (((a1k ks).drop (lo*sz)).take (n*sz)))):=(rfl)
def srS (st:St) (N:Nat) (x:X) (v:AV):Option (St×AV):=match v with
 | .own sz n ks=>match x with
  | .t t=>some (st.put t .dead,.own sz n ks)
  | _=>some (st,.own sz n ks)
 | .sl n ks=>some (st,.sl n ks)
 | .bor t q lo n e=>srB st N t q lo n (a2a st t q e)
 | _=>none
@[congr] theorem e6o {x:X} {v v':AV} (h:v=v'):srS st N x v=srS st N x v':=by rw [h]
@[go_sem] theorem f8f {t sz n:Nat} {ks:List AV}:srS st N (.t t) (.own sz n ks)=some (st.put t .dead,.own sz n ks):=(rfl)
@[go_sem] theorem g2f {t sz n:Nat} {ks:List AV}:srS st N (.nl t) (.own sz n ks)=some (st,.own sz n ks):=(rfl)
@[go_sem] theorem g2g {x:X} {n:Nat} {ks:List AV}:srS st N x (.sl n ks)=some (st,.sl n ks):=(rfl)
@[go_sem] theorem f8e {x:X} {t:Nat} {q:List Nat} {lo n e:Nat}:srS st N x (.bor t q lo n e)=srB st N t q lo n (a2a st t q e):=(rfl)
theorem d1l (x:X):(d9a x N).run st=(srS st N x (rdv st x)).map fun r=>((),r.1.put (N+1) r.2):=by
 simp only [d9a,Ev.run_bind,a0u,Option.bind]
 cases hv:rdv st x<;>try rfl
 ·cases x<;>rfl
 ·rename_i t q lo n e
  simp only [srS,Ev.run_bind,a1m,Option.bind,a0g]
  by_cases he:e=st.ep t
  ·subst he
   simp only [a2a,if_true,beq_self_eq_true,Bool.true_and]
   cases hk:a0f (st.s t) q with
   | none=>
    simp only [srB,Option.map]
    generalize (decide (t < N))=b
    cases b
    ·rfl
    ·simp only [if_true,a00,hk]; rfl
   | some k=>
    by_cases h2:t < N
    ·simp only [h2,decide_true,Bool.and_self,if_true,a00,hk,Option.map]
     cases k<;>try rfl
     rename_i sz n0 ks
     simp only [srB,gO,Ev.run_bind,a0g,Option.bind,h2,true_and]
     by_cases h3:lo+n<=n0
     ·simp only [h3,decide_true,if_true]; rfl
     ·simp only [h3,decide_false,Bool.false_eq_true,if_false]
    ·simp only [h2,decide_false,Bool.and_false,Bool.false_eq_true,if_false]
     cases k<;>try rfl
     simp only [srB,gO,h2,false_and,and_false,if_false]; rfl
  ·have:(e==st.ep t)=false:=by simpa using he
   simp only [this,Bool.false_and,Bool.false_eq_true,if_false,a2a,he]; rfl
def apV (sz by_:Nat) (s y:AV):Option (AV):=match s,y with
 | .own sz1 n xs,.own sz2 m ys=>gO (sz1=sz/\sz2=sz/\(n+m)*by_<=140737488355328/\n+m<=140737488355328) (some (.own sz (n+m) (xs++ys)))
 | .own sz1 n xs,.sl m ys=>gO (sz1=sz/\ys.length=m*sz/\(n+m)*by_<=140737488355328/\n+m<=140737488355328) (some (.own sz (n+m) (xs++ys)))
 | _,_=>none
@[go_sem] theorem f1w {sz by_ sz1 sz2 n m:Nat} {xs ys:List AV}:apV sz by_ (.own sz1 n xs) (.own sz2 m ys)=gO (sz1=sz/\sz2=sz/\(n+m)*by_<=140737488355328/\n+m<=140737488355328) (some (.own sz (n+m) (xs++ys))):=(rfl)
@[go_sem] theorem f86 {sz by_ sz1 n m:Nat} {xs ys:List AV}:apV sz by_ (.own sz1 n xs) (.sl m ys)=gO (sz1=sz/\ys.length=m*sz/\(n+m)*by_<=140737488355328/\n+m<=140737488355328) (some (.own sz (n+m) (xs++ys))):=(rfl)
def apF (st:St) (N d:Nat) (o:Option AV):Option St:=match o with
 | some v=>some ((st.put (N+1) .dead).thru N d v)
 | none=>none
@[congr] theorem d9u {o o':Option AV} (h:o=o'):apF st N d o=apF st N d o':=by rw [h]
@[go_sem] theorem e7d {v:AV}:apF st N d (some v)=some ((st.put (N+1) .dead).thru N d v):=(rfl)
def ap2 (N d sz by_:Nat) (r:Option (St×AV)):Option St:=match r with
 | some (st2,v)=>apF (st2.put (N+1) v) N d (apV sz by_ ((st2.put (N+1) v).s N) v)
 | none=>none
@[congr] theorem d9t {sz by_:Nat} {r r':Option (St×AV)} (h:r=r'):ap2 N d sz by_ r=ap2 N d sz by_ r':=by rw [h]
@[go_sem] theorem e7c {sz by_:Nat} {v:AV}:ap2 N d sz by_ (some (st,v))=apF (st.put (N+1) v) N d (apV sz by_ ((st.put (N+1) v).s N) v):=(rfl)
def ap1 (N d sz by_:Nat) (y:X) (r:Option (St×Nat×Nat×List AV)):Option St:=match r with
 | some (st1,s,n,ks)=>ap2 N d sz by_ (srS (st1.put N (.own s n ks)) N y (rdv (st1.put N (.own s n ks)) y))
 | none=>none
@[congr] theorem d9s {sz by_:Nat} {y:X} {r r':Option (St×Nat×Nat×List AV)} (h:r=r'):ap1 N d sz by_ y r=ap1 N d sz by_ y r':=by rw [h]
@[go_sem] theorem e7b {sz by_ s n:Nat} {ks:List AV} {y:X}:ap1 N d sz by_ y (some (st,s,n,ks))=ap2 N d sz by_ (srS (st.put N (.own s n ks)) N y (rdv (st.put N (.own s n ks)) y)):=(rfl)
@[go_sem] theorem f3j {T e:TypeId} {sz by_:Nat} {x y:X}:evS G N (some d) (.app T e sz by_ x y) st=ap1 N d sz by_ y (tkS st N x (rdv st x)):=by
 simp only [evS,a05,Ev.run_bind,b96,Option.bind]
 cases tkS st N x (rdv st x) with
 | none=>rfl
 | some r=>
  obtain ⟨st1,s,n,ks⟩:=r
  simp only [Option.map,d1l,ap1]
  cases srS (st1.put N (.own s n ks)) N y (rdv (st1.put N (.own s n ks)) y) with
  | none=>rfl
  | some r=>
   obtain ⟨st2,v⟩:=r
   have h1:(st2.put (N+1) v).s (N+1)=v:=by simp
   simp only [a4w,ap2,h1]
   have hown:∀ sz1 n xs sz2 m ys,((do
     a0k (sz1==sz&&sz2==sz&&decide ((n+m)*by_<=140737488355328)&&decide (n+m<=140737488355328))
     a2v (N+1) .dead
     a3t N (some d) (.own sz (n+m) (xs++ys)):Ev Unit).run (st2.put (N+1) v)).map (·.2)=apF (st2.put (N+1) v) N d (gO (sz1=sz/\sz2=sz/\(n+m)*by_<=140737488355328/\n+m<=140737488355328) (some (.own sz (n+m) (xs++ys)))):=by
    intro sz1 n xs sz2 m ys
    simp only [Ev.run_bind,a0g,Option.bind,gO]
    by_cases hc:sz1=sz/\sz2=sz/\(n+m)*by_<=140737488355328/\n+m<=140737488355328
    ·have:(sz1==sz&&sz2==sz&&decide ((n+m)*by_<=140737488355328)&&decide (n+m<=140737488355328))=true:=by
      simp only [Bool.and_eq_true,decide_eq_true_eq,beq_iff_eq]
      exact ⟨⟨⟨hc.1,hc.2.1⟩,hc.2.2.1⟩,hc.2.2.2⟩
     simp only [this,if_true,if_pos hc]; rfl
    ·have:(sz1==sz&&sz2==sz&&decide ((n+m)*by_<=140737488355328)&&decide (n+m<=140737488355328))=false:=by
      rw [Bool.eq_false_iff]; intro hh
      simp only [Bool.and_eq_true,decide_eq_true_eq,beq_iff_eq] at hh
      exact hc ⟨hh.1.1.1,hh.1.1.2,hh.1.2,hh.2⟩
     simp only [this,Bool.false_eq_true,if_false,if_neg hc]; rfl
   have hsl:∀ sz1 n xs m ys,((do
     a0k (sz1==sz&&decide (ys.length=m*sz)&&decide ((n+m)*by_<=140737488355328)&&decide (n+m<=140737488355328))
     a2v (N+1) .dead
     a3t N (some d) (.own sz (n+m) (xs++ys)):Ev Unit).run (st2.put (N+1) v)).map (·.2)=apF (st2.put (N+1) v) N d (gO (sz1=sz/\ys.length=m*sz/\(n+m)*by_<=140737488355328/\n+m<=140737488355328) (some (.own sz (n+m) (xs++ys)))):=by
    intro sz1 n xs m ys
    simp only [Ev.run_bind,a0g,Option.bind,gO]
    by_cases hc:sz1=sz/\ys.length=m*sz/\(n+m)*by_<=140737488355328/\n+m<=140737488355328
    ·have:(sz1==sz&&decide (ys.length=m*sz)&&decide ((n+m)*by_<=140737488355328)&&decide (n+m<=140737488355328))=true:=by
      simp only [Bool.and_eq_true,decide_eq_true_eq,beq_iff_eq]
      exact ⟨⟨⟨hc.1,hc.2.1⟩,hc.2.2.1⟩,hc.2.2.2⟩
     simp only [this,if_true,if_pos hc]; rfl
    ·have:(sz1==sz&&decide (ys.length=m*sz)&&decide ((n+m)*by_<=140737488355328)&&decide (n+m<=140737488355328))=false:=by
      rw [Bool.eq_false_iff]; intro hh
      simp only [Bool.and_eq_true,decide_eq_true_eq,beq_iff_eq] at hh
      exact hc ⟨hh.1.1.1,hh.1.1.2,hh.1.2,hh.2⟩
     simp only [this,Bool.false_eq_true,if_false,if_neg hc]; rfl
   cases hs:(st2.put (N+1) v).s N<;>try rfl
   cases v<;>first | rfl | exact hown _ _ _ _ _ _ | exact hsl _ _ _ _ _
def c3q (N:Nat):List (Nat×Nat×X)->St->Option St
 | [],st=>some st
 | (off,sz,x)::rest,st=>match giv st N x (rdv st x) with
  | some (st1,cs)=>match st1.s (N+1) with
   | .agg zs=>gO (cs.length=sz/\off+sz<=zs.length) (c3q N rest ((st1.put N .dead).put (N+1) (.agg (a0h zs off cs))))
   | _=>none
  | none=>none
@[congr] theorem d8l {l l':List (Nat×Nat×X)} {st':St} (hl:l=l') (h:st=st'):c3q N l st=c3q N l' st':=by rw [hl,h]
@[go_sem] theorem f0k:c3q N [] st=some st:=(rfl)
def d8j (N off sz:Nat) (rest:List (Nat×Nat×X)) (st:St) (cs:List AV) (v:AV):Option St:=match v with
 | .agg zs=>gO (cs.length=sz/\off+sz<=zs.length) (c3q N rest ((st.put N .dead).put (N+1) (.agg (a0h zs off cs))))
 | _=>none
@[congr] theorem d8k {off sz:Nat} {rest:List (Nat×Nat×X)} {cs:List AV} {v v':AV} (h:v=v'):d8j N off sz rest st cs v=d8j N off sz rest st cs v':=by rw [h]
@[go_sem] theorem f0j {off sz:Nat} {rest:List (Nat×Nat×X)} {cs zs:List AV}:d8j N off sz rest st cs (.agg zs)=gO (cs.length=sz/\off+sz<=zs.length) (c3q N rest ((st.put N .dead).put (N+1) (.agg (a0h zs off cs)))):=(rfl)
def e43 (N off sz:Nat) (rest:List (Nat×Nat×X)) (r:Option (St×List AV)):Option St:=match r with
 | some (st1,cs)=>d8j N off sz rest st1 cs (st1.s (N+1))
 | none=>none
@[congr] theorem d8i {off sz:Nat} {rest:List (Nat×Nat×X)} {r r':Option (St×List AV)} (h:r=r'):e43 N off sz rest r=e43 N off sz rest r':=by rw [h]
@[go_sem] theorem e44 {off sz:Nat} {rest:List (Nat×Nat×X)} {cs:List AV}:e43 N off sz rest (some (st,cs))=d8j N off sz rest st cs (st.s (N+1)):=(rfl)
@[go_sem] theorem e45 {off sz:Nat} {x:X} {rest:List (Nat×Nat×X)}:c3q N ((off,sz,x)::rest) st=e43 N off sz rest (giv st N x (rdv st x)):=by
 simp only [c3q,e43]
 cases giv st N x (rdv st x) with
 | none=>rfl
 | some r=>obtain ⟨st1,cs⟩:=r; simp only [d8j]
theorem b1v:∀ (l:List (Nat×Nat×X)) (st:St),(a6t N l).run st=(c3q N l st).map fun st=>((),st)
 | [],st=>rfl
 | (off,sz,x)::rest,st=>by
  simp only [a6t,Ev.run_bind,b0y,Option.bind,c3q]
  cases giv st N x (rdv st x) with
  | none=>rfl
  | some r=>
   obtain ⟨st1,cs⟩:=r
   have hN:(st1.put N (.agg cs)).s N= .agg cs:=by simp
   have hN1:(st1.put N (.agg cs)).s (N+1)=st1.s (N+1):=by simp
   simp only [Option.map,c0j,Ev.run_bind,a4w,Option.bind,hN,Ev.run_pure,hN1]
   cases st1.s (N+1)<;>try rfl
   rename_i zs
   simp only [Ev.run_pure,a0g,gO]
   by_cases hc:cs.length=sz/\off+sz<=zs.length
   ·simp only [hc.1,hc.2,decide_true,Bool.and_self,if_true,and_self,a51,b2i (show nm (AV.agg cs)=false from rfl)]
    exact b1v rest _
   ·have:(decide (cs.length=sz)&&decide (off+sz<=zs.length))=false:=by
     rw [Bool.eq_false_iff]; intro hh
     simp only [Bool.and_eq_true,decide_eq_true_eq] at hh
     exact hc hh
    simp only [this,Bool.false_eq_true,if_false,if_neg hc]
def e0d (st:St) (N d:Nat) (v:AV):Option St:=match v with
 | .agg ks=>some ((st.put (N+1) .dead).put d (.agg ks))
 | _=>none
@[congr] theorem d6h {v v':AV} (h:v=v'):e0d st N d v=e0d st N d v':=by rw [h]
@[go_sem] theorem e7q {ks:List AV}:e0d st N d (.agg ks)=some ((st.put (N+1) .dead).put d (.agg ks)):=(rfl)
def e0b (N d:Nat) (o:Option St):Option St:=match o with
 | some st=>e0d st N d (st.s (N+1))
 | none=>none
@[congr] theorem d6g {o o':Option St} (h:o=o'):e0b N d o=e0b N d o':=by rw [h]
@[go_sem] theorem e0c:e0b N d (some st)=e0d st N d (st.s (N+1)):=(rfl)
@[go_sem] theorem e1i {T:TypeId} {zs:List AV} {parts:List (Nat×Nat×Nat×X)}:evS G N (some d) (.build T zs parts) st=e0b N d (c3q N (parts.map fun p=>p.2) (st.put (N+1) (.agg zs))):=by
 simp only [evS,a05,Ev.run_bind,a51,Option.bind,b1v]
 cases c3q N (parts.map fun p=>p.2) (st.put (N+1) (.agg zs)) with
 | none=>rfl
 | some s=>
  simp only [Option.map,c0j,Ev.run_bind,a4w,Option.bind,e0b]
  cases s.s (N+1)<;>rfl
def e0i (st:St) (N d sz len:Nat) (v:AV):Option St:=match v with
 | .agg ks=>some (st.thru (N+1) d (.own sz len ks))
 | _=>none
@[congr] theorem d6k {sz len:Nat} {v v':AV} (h:v=v'):e0i st N d sz len v=e0i st N d sz len v':=by rw [h]
@[go_sem] theorem e7v {sz len:Nat} {ks:List AV}:e0i st N d sz len (.agg ks)=some (st.thru (N+1) d (.own sz len ks)):=(rfl)
def e0g (N d sz len:Nat) (o:Option St):Option St:=match o with
 | some st=>e0i st N d sz len (st.s (N+1))
 | none=>none
@[congr] theorem d6j {sz len:Nat} {o o':Option St} (h:o=o'):e0g N d sz len o=e0g N d sz len o':=by rw [h]
@[go_sem] theorem e0h {sz len:Nat}:e0g N d sz len (some st)=e0i st N d sz len (st.s (N+1)):=(rfl)
@[go_sem] theorem d7g {T e:TypeId} {sz len:Nat} {zs:List AV} {parts:List (Nat×X)}:evS G N (some d) (.bslice T e sz len zs parts) st=e0g N d sz len (c3q N (parts.map fun p=>(p.1*sz,sz,p.2)) (st.put (N+1) (.agg (a6w len zs)))):=by
 simp only [evS,a05,Ev.run_bind,a51,Option.bind,b1v]
 cases c3q N (parts.map fun p=>(p.1*sz,sz,p.2)) (st.put (N+1) (.agg (a6w len zs))) with
 | none=>rfl
 | some s=>
  simp only [Option.map,c0j,Ev.run_bind,a4w,Option.bind,e0g]
  cases s.s (N+1)<;>rfl
def e0e (N d sz:Nat) (r:Option (St×List AV)):Option St:=match r with
 | some (st1,cs)=>gO (cs.length=sz) (some ((st1.put N (.agg cs)).thru N d (.var cs)))
 | none=>none
@[congr] theorem d6i {sz:Nat} {r r':Option (St×List AV)} (h:r=r'):e0e N d sz r=e0e N d sz r':=by rw [h]
@[go_sem] theorem e0f {sz:Nat} {cs:List AV}:e0e N d sz (some (st,cs))=gO (cs.length=sz) (some ((st.put N (.agg cs)).thru N d (.var cs))):=(rfl)
@[go_sem] theorem f3l {T:TypeId} {sz:Nat} {x:X}:evS G N (some d) (.box T sz x) st=e0e N d sz (giv st N x (rdv st x)):=by
 simp only [evS,a05,Ev.run_bind,b0y,Option.bind]
 cases giv st N x (rdv st x) with
 | none=>rfl
 | some r=>
  obtain ⟨st1,cs⟩:=r
  have hN:(st1.put N (.agg cs)).s N= .agg cs:=by simp
  simp only [Option.map,c0j,Ev.run_bind,a4w,Option.bind,hN,Ev.run_pure,a0g,e0e,gO]
  by_cases hc:cs.length=sz
  ·simp only [hc,decide_true,if_true]; rfl
  ·simp only [hc,decide_false,Bool.false_eq_true,if_false]
def e3l (st:St) (N d sz by_:Nat) (zs:List AV) (l c:Option Int):Option St:=match l,c with
 | some n,some m=>gO (0<=n/\n<=m/\m*by_<=140737488355328/\m<=140737488355328) (some (st.thru N d (.own sz n.toNat (a6w n.toNat zs))))
 | _,_=>none
@[congr] theorem d77 {sz by_:Nat} {zs:List AV} {l l' c c':Option Int} (h:l=l') (h2:c=c'):e3l st N d sz by_ zs l c=e3l st N d sz by_ zs l' c':=by rw [h,h2]
@[go_sem] theorem e3m {sz by_:Nat} {zs:List AV} {n m:Int}:e3l st N d sz by_ zs (some n) (some m)=gO (0<=n/\n<=m/\m*by_<=140737488355328/\m<=140737488355328) (some (st.thru N d (.own sz n.toNat (a6w n.toNat zs)))):=(rfl)
@[go_sem] theorem f3t {T e:TypeId} {sz by_:Nat} {zs:List AV} {l c:X}:evS G N (some d) (.mks T e sz by_ zs l c) st=e3l st N d sz by_ zs (c80 (rdv st l)) (c80 (rdv st c)):=by
 simp only [evS,a05,Ev.run_bind,b3c,Option.bind,e3l]
 cases c80 (rdv st l) with
 | none=>rfl
 | some n=>
  simp only [Option.map,b3c]
  cases c80 (rdv st c) with
  | none=>rfl
  | some m=>
   simp only [Option.map,Ev.run_bind,a0g,Option.bind,gO]
   by_cases hc:0<=n/\n<=m/\m*by_<=140737488355328/\m<=140737488355328
   ·obtain ⟨h1,h2,h3,h4⟩:=hc
    simp only [h1,h2,h3,h4,decide_true,Bool.and_self,if_true,and_self]; rfl
   ·have:(decide (0<=n)&&decide (n<=m)&&decide (m*by_<=140737488355328)&&decide (m<=140737488355328))=false:=by
     rw [Bool.eq_false_iff]; intro hh
     simp only [Bool.and_eq_true,decide_eq_true_eq] at hh
     exact hc ⟨hh.1.1.1,hh.1.1.2,hh.1.2,hh.2⟩
    simp only [this,Bool.false_eq_true,if_false,if_neg hc]
def d75 (st:St) (d:Nat) (T:TypeId) (x:X) (v:AV):Option St:=match v with
 | .lit v=>some (st.put d (.lit (.iface T v)))
 | .var ks=>match x with
  | .t t=>some ((st.set t (frz (.var ks))).put d (.ifc T (frz (.var ks))))
  | _=>none
 | .ip ks o=>some (st.put d (.ifc T (.ip ks o)))
 | _=>none
@[congr] theorem d76 {T:TypeId} {x:X} {v v':AV} (h:v=v'):d75 st d T x v=d75 st d T x v':=by rw [h]
@[go_sem] theorem f3s {T:TypeId} {x:X}:evS G N (some d) (.mki T x) st=d75 st d T x (rdv st x):=by
 simp only [evS,a05,Ev.run_bind,a0u,Option.bind]
 cases hv:rdv st x<;>try rfl
 cases x<;>rfl
@[go_sem] theorem e9u {T:TypeId} {x:X} {v:Value}:d75 st d T x (.lit v)=some (st.put d (.lit (.iface T v))):=(rfl)
@[go_sem] theorem e9v {T:TypeId} {t:Nat} {ks:List AV}:d75 st d T (.t t) (.var ks)=some ((st.set t (.ip (a1k ks) 0)).put d (.ifc T (.ip (a1k ks) 0))):=(rfl)
@[go_sem] theorem f5z {T:TypeId} {x:X} {ks:List AV} {o:Nat}:d75 st d T x (.ip ks o)=some (st.put d (.ifc T (.ip ks o))):=(rfl)
def d37 (st:St) (d:Nat) (k:Option AV):Option St:=match k with
 | some k=>if a0n k then some (st.put d k) else none
 | none=>none
@[congr] theorem d7l {k k':Option AV} (h:k=k'):d37 st d k=d37 st d k':=by rw [h]
@[go_sem] theorem e11 {k:AV}:d37 st d (some k)=iO (a0n k) (some (st.put d k)) none:=(rfl)
def e12 (st:St) (d off:Nat) (v:AV):Option St:=match v with
 | .agg ks=>d37 st d ks[off]?
 | _=>none
@[congr] theorem d7m {off:Nat} {v v':AV} (h:v=v'):e12 st d off v=e12 st d off v':=by rw [h]
@[go_sem] theorem e8s {off:Nat} {ks:List AV}:e12 st d off (.agg ks)=d37 st d ks[off]? :=(rfl)
@[go_sem] theorem f3o {T off f:Nat} {x:X}:evS G N (some d) (.fld T off x f) st=e12 st d off (rdv st x):=by
 simp only [evS,a05,Ev.run_bind,a0u,Option.bind]
 cases hv:rdv st x<;>try rfl
 rename_i ks
 simp only [e12,Ev.run_bind,a00,Option.bind]
 cases ks[off]? with
 | none=>rfl
 | some k=>
  simp only [d37,Ev.run_bind,a0g,Option.bind]
  cases hn:a0n k
  ·simp [d37,Ev.run_bind,a0g,a00,hn]
  ·simp only [Option.map,hn,if_true]; rfl
def d33 (st:St) (N d:Nat) (x:X) (i:Nat) (ks:List AV) (k:Option AV):Option St:=match k with
 | some k=>if a0n k then some (st.put d k) else match x with
  | .t t=>some ((st.put t (.tup (ks.set i .dead))).thru N d k)
  | _=>none
 | none=>none
@[congr] theorem d7i {x:X} {i:Nat} {ks:List AV} {k k':Option AV} (h:k=k'):d33 st N d x i ks k=d33 st N d x i ks k':=by rw [h]
@[go_sem] theorem e1u {t i:Nat} {ks:List AV} {k:AV}:d33 st N d (.t t) i ks (some k)=iO (a0n k) (some (st.put d k)) (some ((st.put t (.tup (ks.set i .dead))).thru N d k)):=(rfl)
def e1v (st:St) (N d:Nat) (x:X) (i:Nat) (v:AV):Option St:=match v with
 | .tup ks=>d33 st N d x i ks ks[i]?
 | _=>none
@[congr] theorem d7j {x:X} {i:Nat} {v v':AV} (h:v=v'):e1v st N d x i v=e1v st N d x i v':=by rw [h]
@[go_sem] theorem e8p {x:X} {i:Nat} {ks:List AV}:e1v st N d x i (.tup ks)=d33 st N d x i ks ks[i]? :=(rfl)
@[go_sem] theorem f3n {x:X} {i:Nat}:evS G N (some d) (.ext x i) st=e1v st N d x i (rdv st x):=by
 simp only [evS,a05,Ev.run_bind,a0u,Option.bind]
 cases hv:rdv st x<;>try rfl
 rename_i ks
 simp only [e1v,Ev.run_bind,a00,Option.bind]
 cases ks[i]? with
 | none=>rfl
 | some k=>
  simp only [Option.map,d33]
  generalize a0n k=b
  cases b<;>cases x<;>rfl
def d2z (T:TypeId) (zs:List AV) (v:AV):Option AV:=match v,zs with
 | .lit .nilIface,[z]=>some (.tup [z,.lit (.bool false)])
 | .lit (.iface T' u),[z]=>some (.tup (if T'=T then [.lit u,.lit (.bool true)] else [z,.lit (.bool false)]))
 | .ifc T' k,[z]=>if a0n k then some (.tup (if T'=T then [k,.lit (.bool true)] else [z,.lit (.bool false)])) else none
 | _,_=>none
@[congr] theorem d9g {T:TypeId} {zs:List AV} {v v':AV} (h:v=v'):d2z T zs v=d2z T zs v':=by rw [h]
@[go_sem] theorem f1m {T:TypeId} {z:AV}:d2z T [z] (.lit .nilIface)=some (.tup [z,.lit (.bool false)]):=(rfl)
@[go_sem] theorem f1l {T T':TypeId} {u:Value} {z:AV}:d2z T [z] (.lit (.iface T' u))=some (.tup (if T'=T then [.lit u,.lit (.bool true)] else [z,.lit (.bool false)])):=(rfl)
@[go_sem] theorem f8l {T T':TypeId} {ks:List AV} {o:Nat} {z:AV}:d2z T [z] (.ifc T' (.ip ks o))=some (.tup (if T'=T then [.ip ks o,.lit (.bool true)] else [z,.lit (.bool false)])):=(rfl)
@[go_sem] theorem f3y {x:X} {xT T:TypeId} {zs:List AV}:evS G N (some d) (.tas x xT T zs) st=b3b st d (d2z T zs (rdv st x)):=by
 simp only [evS,a05,Ev.run_bind,a0u,Option.bind]
 have two:∀ v:AV,(∀ z,zs≠[z])->((match v,zs with
  | .lit .nilIface,[z]=>setD (some d) (.tup [z,.lit (.bool false)])
  | .lit (.iface T' u),[z]=>setD (some d) (.tup (if T'=T then [.lit u,.lit (.bool true)] else [z,.lit (.bool false)]))
  | .ifc T' k,[z]=>do
   a0k (a0n k)
   setD (some d) (.tup (if T'=T then [k,.lit (.bool true)] else [z,.lit (.bool false)]))
  | _,_=>Ev.fail:Ev Unit).run st).map (·.2)=b3b st d (d2z T zs v):=by
  intro v h
  cases v<;>(cases zs with
   | nil=>first | rfl | (rename_i v; cases v<;>rfl)
   | cons a l=>cases l with
    | nil=>exact (h a rfl).elim
    | cons b l=>first | rfl | (rename_i v; cases v<;>rfl))
 cases zs with
 | nil=>exact two _ (by simp)
 | cons z l=>
  cases l with
  | cons b l=>exact two _ (by simp)
  | nil=>
   cases hv:rdv st x<;>try rfl
   ·rename_i v; cases v<;>rfl
   ·simp only [Ev.run_bind,a0g,Option.bind,d2z]
    generalize a0n _=b
    cases b<;>rfl
def cvI (k:IntKind) (v:AV):Option AV:=match v with
 | .lit (.int _ n)=>some (.lit (.int k (k.wrap n)))
 | _=>none
@[congr] theorem e0t {k:IntKind} {v v':AV} (h:v=v'):cvI k v=cvI k v':=by rw [h]
@[go_sem] theorem f2k {k k':IntKind} {n:Int}:cvI k (.lit (.int k' n))=some (.lit (.int k (k.wrap n))):=(rfl)
@[go_sem] theorem e8j {s t:TypeId} {k:IntKind} {x:X}:evS G N (some d) (.conv s t (.int k) x) st=b3b st d (cvI k (rdv st x)):=by
 simp only [evS,a05,Ev.run_bind,a47,Option.bind]
 cases rdv st x<;>try rfl
 rename_i v; cases v<;>rfl
def mmO (mx:Bool) (u v:AV):Option AV:=match u,v with
 | .lit (.int k a),.lit (.int k' b)=>if k=k' then some (.lit (.int k (if mx then (if b > a then b else a) else (if b < a then b else a)))) else none
 | _,_=>none
@[go_sem] theorem f51 {mx:Bool} {k:IntKind} {a b:Int}:mmO mx (.lit (.int k a)) (.lit (.int k b))=some (.lit (.int k (if mx then (if b > a then b else a) else (if b < a then b else a)))):=by simp [mmO]
@[go_sem] theorem g0k {mx:Bool} {ts:List TypeId} {x y:X}:evS G N (some d) (.mm mx ts [x,y]) st=b3b st d (mmO mx (rdv st x) (rdv st y)):=by
 simp only [evS,a05,Ev.run_bind,a47,Option.bind]
 cases rdv st x<;>try rfl
 simp only [a47]
 cases rdv st y
 case lit.lit u v=>
  cases u<;>try rfl
  rename_i k a
  cases v<;>try rfl
  rename_i k' b
  simp only [mmO,Ev.run_bind,a0g,Option.bind]
  by_cases h:k=k'
  ·simp only [h,decide_true,if_true]; rfl
  ·simp only [h,decide_false,Bool.false_eq_true,if_false]; rfl
 all_goals first | rfl | (rename_i u; cases u<;>rfl) | (rename_i u _; cases u<;>rfl) | (rename_i u _ _; cases u<;>rfl) | (rename_i u _ _ _; cases u<;>rfl) | (rename_i u _ _ _ _; cases u<;>rfl) | (rename_i u _ _ _ _ _; cases u<;>rfl)
def b77 (st:St):List X->Option (List AV)
 | []=>some []
 | x::xs=>match rdv st x with
  | .var _=>match x with
   | .t t=>(b77 st xs).map fun ks=> .ref t [] 0 (st.ep t)::ks
   | _=>none
  | .own _ _ _=>none
  | .dead=>none
  | .agg _=>none
  | .tup _=>none
  | .ifc _ _=>none
  | .bor _ _ _ _ _=>none
  | .mp _ _=>none
  | .loan _=>none
  | k=>(b77 st xs).map fun ks=>k::ks
theorem a8c:∀ (xs:List X),(b2s xs).run st=(b77 st xs).map fun ks=>(ks,st)
 | []=>rfl
 | x::xs=>by
  have ih:=a8c xs
  simp only [b2s,Ev.run_bind,a0u,Option.bind,b77]
  cases hv:rdv st x<;>try (first | rfl | (simp only [Ev.run_bind,ih,Option.bind]; cases b77 st xs<;>rfl))
  cases x<;>try rfl
  simp only [b2p,Ev.run,Ev.run_bind,ih,Option.bind,rde]
  cases b77 st xs<;>rfl
def d15 (x:X) (v:AV) (st:St) (r:Option (List AV)):Option (List AV):=match v with
  | .var _=>match x with
   | .t t=>r.map fun ks=> .ref t [] 0 (st.ep t)::ks
   | _=>none
  | .own _ _ _=>none
  | .dead=>none
  | .agg _=>none
  | .tup _=>none
  | .ifc _ _=>none
  | .bor _ _ _ _ _=>none
  | .mp _ _=>none
  | .loan _=>none
  | k=>r.map fun ks=>k::ks
@[go_sem] theorem e7z:b77 st []=some []:=(rfl)
@[go_sem] theorem e0n {x:X} {xs:List X}:b77 st (x::xs)=d15 x (rdv st x) st (b77 st xs):=by
 simp only [b77,d15]
@[go_sem] theorem e7y {t:Nat} {ks l:List AV}:d15 (.t t) (.var ks) st (some l)=some (.ref t [] 0 (st.ep t)::l):=(rfl)
@[go_sem] theorem e7w {x:X} {v:Value} {l:List AV}:d15 x (.lit v) st (some l)=some (.lit v::l):=(rfl)
@[go_sem] theorem f2i {x:X} {n:Nat} {ks l:List AV}:d15 x (.sl n ks) st (some l)=some (.sl n ks::l):=(rfl)
@[go_sem] theorem f2h {x:X} {n:Nat} {ks l:List AV}:d15 x (.ip ks n) st (some l)=some (.ip ks n::l):=(rfl)
@[go_sem] theorem f2g {x:X} {f:FuncId} {a b l:List AV}:d15 x (.fn f a b) st (some l)=some (.fn f a b::l):=(rfl)
@[go_sem] theorem e7x {x:X} {t:Nat} {q:List Nat} {o e:Nat} {l:List AV}:d15 x (.ref t q o e) st (some l)=some (.ref t q o e::l):=(rfl)
def f5y (f:FuncId) (a b:Option (List AV)):Option AV:=match a,b with
 | some a,some b=>some (.fn f a b)
 | _,_=>none
@[go_sem] theorem e3k {f:FuncId} {a b:List AV}:f5y f (some a) (some b)=some (.fn f a b):=(rfl)
@[go_sem] theorem f3r {f:FuncId} {fs cs:List X}:evS G N (some d) (.mkf f fs cs) st=b3b st d (f5y f (b77 st fs) (b77 st cs)):=by
 simp only [evS,a05,Ev.run_bind,a8c,Option.bind]
 cases b77 st fs with
 | none=>rfl
 | some a=>
  simp only [Option.map,a8c]
  cases b77 st cs<;>rfl
def c4m:List X->St->St
 | [],st=>st
 | .t n::xs,st=>c4m xs (match st.s n with
  | .var ks=>st.set n (frz (.var ks))
  | _=>st)
 | _::xs,st=>c4m xs st
def d0p (n:Nat) (v:AV) (st:St):St:=match v with
 | .var ks=>st.set n (.ip (a1k ks) 0)
 | _=>st
@[go_sem] theorem e8x {st:St}:c4m [] st=st:=(rfl)
@[congr] theorem d7n {n:Nat} {v v':AV} {st:St} (h:v=v'):d0p n v st=d0p n v' st:=by rw [h]
@[go_sem] theorem g0p {st:St} {n:Nat} {xs:List X}:c4m (.t n::xs) st=c4m xs (d0p n (st.s n) st):=by
 simp only [c4m,d0p]
 cases st.s n<;>simp [frz]
@[go_sem] theorem g0o {st:St} {v:Value} {xs:List X}:c4m (.c v::xs) st=c4m xs st:=(rfl)
@[go_sem] theorem e8v {n:Nat} {ks:List AV} {st:St}:d0p n (.var ks) st=st.set n (.ip (a1k ks) 0):=(rfl)
@[go_sem] theorem f4f {n o:Nat} {ks:List AV} {st:St}:d0p n (.ip ks o) st=st:=(rfl)
@[go_sem] theorem e8u {n:Nat} {v:Value} {st:St}:d0p n (.lit v) st=st:=(rfl)
@[go_sem] theorem f4g {n m:Nat} {ks:List AV} {st:St}:d0p n (.sl m ks) st=st:=(rfl)
@[go_sem] theorem f4e {n:Nat} {f:FuncId} {a b:List AV} {st:St}:d0p n (.fn f a b) st=st:=(rfl)
theorem a3q:∀ (xs:List X) (st:St),(a7x xs).run st=some ((),c4m xs st)
 | [],st=>rfl
 | x::xs,st=>by
  simp only [a7x,Ev.run_bind,a0u,Option.bind]
  cases x with
  | t n=>
   simp only [rdv,c4m]
   cases hv:st.s n<;>simp only [hv]<;>try exact a3q xs st
   simp only [b2p,Ev.run_bind,Ev.run,b3d,Option.bind]
   exact a3q xs _
  | c v=>exact a3q xs st
  | nl sz=>exact a3q xs st
  | g n=>exact a3q xs st
  | f n=>exact a3q xs st
def f50 (st:St) (d:Nat) (f:FuncId) (fs cs:List X):Option St:=b3b st d (f5y f (b77 st fs) (b77 st cs))
@[go_sem] theorem f3u {f:FuncId} {fs cs:List X}:evS G N (some d) (.mkz f fs cs) st=f50 (c4m cs st) d f fs cs:=by
 simp only [evS,a05,Ev.run_bind,a3q,a8c,Option.bind,f50]
 cases b77 (c4m cs st) fs with
 | none=>rfl
 | some a=>
  simp only [Option.map,a8c]
  cases b77 (c4m cs st) cs<;>rfl
attribute [go_sem] f50
def f3i (G:GG) (b:BinOp) (tp:TypeId) (d:Option Nat) (u v:Value):Ev Unit:=match u,v with
  | .iface t1 (.pointer (some a)),.iface t2 (.pointer (some c))=>do
   a0k (t1==tp&&t2==tp&&(decide (a=c)||((G a.block).isSome&&(G c.block).isSome)))
   match b with
   | .eql=>setD d (.lit (.bool (decide (a=c))))
   | .neq=>setD d (.lit (.bool (!(decide (a=c)))))
   | _=> .fail
  | _,_=> .fail
def e1f (G:GG) (b:BinOp) (tp:TypeId) (st:St) (d:Nat) (u v:Option Value):Option St:=match u,v with
 | some u,some v=>((f3i G b tp (some d) u v).run st).map (·.2)
 | _,_=>none
@[congr] theorem d7f {b:BinOp} {tp:TypeId} {u v u' v':Option Value} (h:u=u') (h2:v=v'):e1f G b tp st d u v=e1f G b tp st d u' v':=by rw [h,h2]
def f2c (b:BinOp) (c:Bool):Option AV:=match b with
 | .eql=>some (.lit (.bool c))
 | .neq=>some (.lit (.bool (!c)))
 | _=>none
@[go_sem] theorem e7o {c:Bool}:f2c .eql c=some (.lit (.bool c)):=(rfl)
@[go_sem] theorem e7p {c:Bool}:f2c .neq c=some (.lit (.bool !c)):=(rfl)
@[go_sem] theorem e8i {b:BinOp} {tp t1 t2:TypeId} {a c:Addr}:e1f G b tp st d (some (.iface t1 (.pointer (some a)))) (some (.iface t2 (.pointer (some c))))=gO (t1=tp/\t2=tp/\(a=c\/((G a.block).isSome=true/\(G c.block).isSome=true))) (b3b st d (f2c b (decide (a=c)))):=by
 simp only [e1f,f3i,gO,Ev.run_bind,a0g,Option.bind]
 by_cases h:t1=tp/\t2=tp/\(a=c\/((G a.block).isSome=true/\(G c.block).isSome=true))
 ·have:(t1==tp&&t2==tp&&(decide (a=c)||((G a.block).isSome&&(G c.block).isSome)))=true:=by
   simp only [Bool.and_eq_true,Bool.or_eq_true,beq_iff_eq,decide_eq_true_eq]; exact ⟨⟨h.1,h.2.1⟩,h.2.2⟩
  rw [if_pos h]
  simp only [this,if_true]
  cases b<;>rfl
 ·have:(t1==tp&&t2==tp&&(decide (a=c)||((G a.block).isSome&&(G c.block).isSome)))=false:=by
   rw [Bool.eq_false_iff]; intro hh
   simp only [Bool.and_eq_true,Bool.or_eq_true,beq_iff_eq,decide_eq_true_eq] at hh
   exact h ⟨hh.1.1,hh.1.2,hh.2⟩
  rw [if_neg h]
  simp only [this,Bool.false_eq_true,if_false]; rfl
@[go_sem] theorem f3m {b:BinOp} {T tp te:TypeId} {x y:X} {yT:TypeId}:evS G N (some d) (.eqs b T tp te x y yT) st=e1f G b tp st d (d73 (rdv st x)) (d73 (rdv st y)):=by
 have e:a05 G N (some d) (.eqs b T tp te x y yT)=(b8a x >>=fun u=>b8a y >>=fun v=>f3i G b tp (some d) u v):=rfl
 simp only [evS,e,Ev.run_bind,b95,Option.bind]
 cases d73 (rdv st x) with
 | none=>rfl
 | some u=>
  simp only [Option.map,b95]
  cases d73 (rdv st y)<;>rfl
end
section
variable {P:Program} {G:GG} {N:Nat} {st:St} {K:St->Prop}
def gvB (st:St) (N t:Nat) (q:List Nat) (lo n j:Nat) (k:Option AV):Option St:=match k with
 | some (.own sz n0 ks)=>gO (lo=0/\t < N/\n<=n0) (some ((st.set t (a0r (st.s t) q .dead)).put j (.own sz n (ks.take (n*sz)))))
 | _=>none
@[congr] theorem e2l {t:Nat} {q:List Nat} {lo n j:Nat} {k k':Option AV} (h:k=k'):gvB st N t q lo n j k=gvB st N t q lo n j k':=by rw [h]
@[go_sem] theorem f4x {t:Nat} {q:List Nat} {lo n j sz n0:Nat} {ks:List AV}:gvB st N t q lo n j (some (.own sz n0 ks))=gO (lo=0/\t < N/\n<=n0) (some ((st.set t (a0r (st.s t) q .dead)).put j (.own sz n (ks.take (n*sz))))):=(rfl)
def gvS (st:St) (N:Nat) (x:X) (j:Nat) (v:AV):Option St:=match v with
 | .dead=>none
 | .bor t q lo n e=>gvB st N t q lo n j (a2a st t q e)
 | v=>if noRef v then ((a3k x j v).run st).map (·.2) else none
@[congr] theorem e2m {x:X} {j:Nat} {v v':AV} (h:v=v'):gvS st N x j v=gvS st N x j v':=by rw [h]
theorem c78 (x:X) (j:Nat):((c1t N x j).run st).map (·.2)=gvS st N x j (rdv st x):=by
 simp only [c1t,Ev.run_bind,a0u,Option.bind]
 cases hv:rdv st x
 case dead=>rfl
 case bor t q lo n e=>
  simp only [gvS,Ev.run_bind,a1m,Option.bind,a0g]
  by_cases he:e=st.ep t
  ·subst he
   simp only [a2a,if_true,beq_self_eq_true,Bool.true_and]
   cases hk:a0f (st.s t) q with
   | none=>
    simp only [gvB]
    generalize (lo==0&&decide (t < N))=b
    cases b
    ·rfl
    ·simp only [if_true,a00,hk]; rfl
   | some k=>
    by_cases h1:lo=0
    ·by_cases h2:t < N
     ·simp only [h1,h2,beq_self_eq_true,decide_true,Bool.and_self,if_true,a00,hk]
      cases k<;>try rfl
      rename_i sz n0 ks
      simp only [Option.map,gvB,gO,Ev.run_bind,a0g,Option.bind,h2,true_and]
      by_cases h3:n<=n0
      ·simp only [h3,decide_true,if_true]; rfl
      ·simp only [h3,decide_false,Bool.false_eq_true,if_false]
     ·simp only [h2,decide_false,Bool.and_false,Bool.false_eq_true,if_false]
      cases k<;>try rfl
      simp only [gvB,gO,h2,false_and,and_false,if_false]; rfl
    ·have:(lo==0)=false:=by simpa using h1
     simp only [this,Bool.false_and,Bool.false_eq_true,if_false]
     cases k<;>try rfl
     simp only [gvB,gO,h1,false_and,if_false]; rfl
  ·have:(e==st.ep t)=false:=by simpa using he
   simp only [this,Bool.false_and,Bool.false_eq_true,if_false,a2a,he]; rfl
 all_goals (simp only [gvS,Ev.run_bind,a0g,Option.bind]; generalize noRef _=b; cases b<;>rfl)
section
variable {j:Nat}
def d43 (b:Bool) (r:Option St):Option St:=if b then r else none
@[congr] theorem d8f {b b':Bool} {r:Option St} (h:b=b'):d43 b r=d43 b' r:=by rw [h]
@[go_sem] theorem g1z {r:Option St}:d43 true r=r:=(rfl)
@[go_sem] theorem f4z {x:X} {t:Nat} {q:List Nat} {lo n e:Nat}:gvS st N x j (.bor t q lo n e)=gvB st N t q lo n j (a2a st t q e):=(rfl)
@[go_sem] theorem f49 {x:X} {v:Value}:gvS st N x j (.lit v)=some (st.put j (.lit v)):=by cases x<;>rfl
@[go_sem] theorem g06 {x:X} {n:Nat} {ks:List AV}:gvS st N x j (.sl n ks)=some (st.put j (.sl n ks)):=by cases x<;>rfl
@[go_sem] theorem g04 {x:X} {n:Nat} {ks:List AV}:gvS st N x j (.ip ks n)=some (st.put j (.ip ks n)):=by cases x<;>rfl
@[go_sem] theorem g03 {x:X} {f:FuncId} {a b:List AV}:gvS st N x j (.fn f a b)=d43 (noRef (.fn f a b)) (some (st.put j (.fn f a b))):=by
 simp only [gvS,d43]; generalize noRef _=r; cases r<;>cases x<;>rfl
@[go_sem] theorem f5a {t sz n:Nat} {ks:List AV}:gvS st N (.t t) j (.own sz n ks)=some ((st.put t .dead).put j (.own sz n ks)):=(rfl)
@[go_sem] theorem g05 {t sz n:Nat} {ks:List AV}:gvS st N (.nl t) j (.own sz n ks)=some (st.put j (.own sz n ks)):=(rfl)
@[go_sem] theorem f5c {t:Nat} {ks:List AV}:gvS st N (.t t) j (.var ks)=some ((st.put t .dead).put j (.var ks)):=(rfl)
@[go_sem] theorem f4y {t:Nat} {ks:List AV}:gvS st N (.t t) j (.agg ks)=iO (a0m ks) (some (st.put j (.agg ks))) (some ((st.put t .dead).put j (.agg ks))):=by
 by_cases h:a0m ks=true
 ·simp only [gvS,noRef,if_true,a3k,a0n,iO,h]; rfl
 ·simp only [gvS,noRef,if_true,a3k,a0n,iO,h]; rfl
@[go_sem] theorem f5b {t:Nat} {ks:List AV}:gvS st N (.t t) j (.tup ks)=iO (a0m ks) (some (st.put j (.tup ks))) (some ((st.put t .dead).put j (.tup ks))):=by
 by_cases h:a0m ks=true
 ·simp only [gvS,noRef,if_true,a3k,a0n,iO,h]; rfl
 ·simp only [gvS,noRef,if_true,a3k,a0n,iO,h]; rfl
@[go_sem] theorem f43 {t:Nat} {T:TypeId} {k:AV}:gvS st N (.t t) j (.ifc T k)=iO (a0n k) (some (st.put j (.ifc T k))) (some ((st.put t .dead).put j (.ifc T k))):=by
 by_cases h:a0n k=true
 ·simp only [gvS,noRef,if_true,a3k,a0n,iO,h]; rfl
 ·simp only [gvS,noRef,if_true,a3k,a0n,iO,h]; rfl
end
def psB (st:St) (N t:Nat) (q:List Nat) (lo n j:Nat) (k:Option AV):Option St:=match k with
 | some (.own sz n0 ks)=>gO (t < N/\lo+n<=n0) (some ((st.set t (a0r (st.s t) q (frz (.own sz n0 ks)))).put j (.sl n (((a1k ks).drop (lo*sz)).take (n*sz)))))
 | _=>none
@[congr] theorem e46 {t:Nat} {q:List Nat} {lo n j:Nat} {k k':Option AV} (h:k=k'):psB st N t q lo n j k=psB st N t q lo n j k':=by rw [h]
@[go_sem] theorem f7g {t:Nat} {q:List Nat} {lo n j sz n0:Nat} {ks:List AV}:psB st N t q lo n j (some (.own sz n0 ks))=gO (t < N/\lo+n<=n0) (some ((st.set t (a0r (st.s t) q (frz (.own sz n0 ks)))).put j (.sl n (((a1k ks).drop (lo*sz)).take (n*sz))))):=(rfl)
def psS (st:St) (N:Nat) (x:X) (j:Nat) (v:AV):Option St:=match v with
 | .dead=>none
 | .bor t q lo n e=>psB st N t q lo n j (a2a st t q e)
 | v=>if noRef v then ((a24 x j v).run st).map (·.2) else none
@[congr] theorem e47 {x:X} {j:Nat} {v v':AV} (h:v=v'):psS st N x j v=psS st N x j v':=by rw [h]
theorem c8a (x:X) (j:Nat):((b7v N x j).run st).map (·.2)=psS st N x j (rdv st x):=by
 simp only [b7v,Ev.run_bind,a0u,Option.bind]
 cases hv:rdv st x
 case dead=>rfl
 case bor t q lo n e=>
  simp only [psS,Ev.run_bind,a1m,Option.bind,a0g]
  by_cases he:e=st.ep t
  ·subst he
   simp only [a2a,if_true,beq_self_eq_true,Bool.true_and]
   cases hk:a0f (st.s t) q with
   | none=>
    simp only [psB]
    generalize (decide (t < N))=b
    cases b
    ·rfl
    ·simp only [if_true,a00,hk]; rfl
   | some k=>
    by_cases h2:t < N
    ·simp only [h2,decide_true,if_true,a00,hk]
     cases k<;>try rfl
     rename_i sz n0 ks
     simp only [Option.map,psB,gO,Ev.run_bind,a0g,Option.bind,h2,true_and]
     by_cases h3:lo+n<=n0
     ·simp only [h3,decide_true,if_true]; rfl
     ·simp only [h3,decide_false,Bool.false_eq_true,if_false]
    ·simp only [h2,decide_false,Bool.false_eq_true,if_false]
     cases k<;>try rfl
     simp only [psB,gO,h2,false_and,if_false]; rfl
  ·have:(e==st.ep t)=false:=by simpa using he
   simp only [this,Bool.false_and,Bool.false_eq_true,if_false,a2a,he]; rfl
 all_goals (simp only [psS,Ev.run_bind,a0g,Option.bind]; generalize noRef _=b; cases b<;>rfl)
section
variable {j:Nat}
@[go_sem] theorem f7i {x:X} {t:Nat} {q:List Nat} {lo n e:Nat}:psS st N x j (.bor t q lo n e)=psB st N t q lo n j (a2a st t q e):=(rfl)
@[go_sem] theorem f7k {x:X} {v:Value}:psS st N x j (.lit v)=some (st.put j (.lit v)):=by cases x<;>rfl
@[go_sem] theorem g2a {x:X} {n:Nat} {ks:List AV}:psS st N x j (.sl n ks)=some (st.put j (.sl n ks)):=by cases x<;>rfl
@[go_sem] theorem g18 {x:X} {n:Nat} {ks:List AV}:psS st N x j (.ip ks n)=some (st.put j (.ip ks n)):=by cases x<;>rfl
@[go_sem] theorem g17 {x:X} {f:FuncId} {a b:List AV}:psS st N x j (.fn f a b)=d43 (noRef (.fn f a b)) (some (st.put j (.fn f a b))):=by
 simp only [psS,d43]; generalize noRef _=r; cases r<;>cases x<;>rfl
@[go_sem] theorem f7l {t sz n:Nat} {ks:List AV}:psS st N (.t t) j (.own sz n ks)=some ((st.set t (.sl n (a1k ks))).put j (.sl n (a1k ks))):=(rfl)
@[go_sem] theorem g19 {t sz n:Nat} {ks:List AV}:psS st N (.nl t) j (.own sz n ks)=some (st.put j (.sl n (a1k ks))):=(rfl)
@[go_sem] theorem f7n {t:Nat} {ks:List AV}:psS st N (.t t) j (.var ks)=some ((st.set t (.ip (a1k ks) 0)).put j (.ip (a1k ks) 0)):=(rfl)
@[go_sem] theorem f7h {t:Nat} {ks:List AV}:psS st N (.t t) j (.agg ks)=iO (a0m ks) (some (st.put j (.agg ks))) (some ((st.set t (.agg (a1k ks))).put j (.agg (a1k ks)))):=by
 by_cases h:a0m ks=true
 ·simp only [psS,noRef,if_true,a24,a0n,iO,h]; rfl
 ·simp only [psS,noRef,if_true,a24,a0n,iO,h]; rfl
@[go_sem] theorem f7m {t:Nat} {ks:List AV}:psS st N (.t t) j (.tup ks)=iO (a0m ks) (some (st.put j (.tup ks))) (some ((st.set t (.tup (a1k ks))).put j (.tup (a1k ks)))):=by
 by_cases h:a0m ks=true
 ·simp only [psS,noRef,if_true,a24,a0n,iO,h]; rfl
 ·simp only [psS,noRef,if_true,a24,a0n,iO,h]; rfl
@[go_sem] theorem f7j {t:Nat} {T:TypeId} {k:AV}:psS st N (.t t) j (.ifc T k)=iO (a0n k) (some (st.put j (.ifc T k))) (some ((st.set t (.ifc T (frz k))).put j (.ifc T (frz k)))):=by
 by_cases h:a0n k=true
 ·simp only [psS,noRef,if_true,a24,a0n,iO,h]; rfl
 ·simp only [psS,noRef,if_true,a24,a0n,iO,h]; rfl
end
def gvs (N:Nat):Nat->List (Bool×X)->Option St->Option St
 | _,_,none=>none
 | _,[],some st=>some st
 | j,(true,x)::xs,some st=>gvs N (j+1) xs (gvS st N x j (rdv st x))
 | j,(false,_)::xs,some st=>gvs N (j+1) xs (some st)
def pss (N:Nat):Nat->List (Bool×X)->Option St->Option St
 | _,_,none=>none
 | _,[],some st=>some st
 | j,(false,x)::xs,some st=>pss N (j+1) xs (psS st N x j (rdv st x))
 | j,(true,_)::xs,some st=>pss N (j+1) xs (some st)
@[congr] theorem e2n {j:Nat} {xs:List (Bool×X)} {o o':Option St} (h:o=o'):gvs N j xs o=gvs N j xs o':=by rw [h]
@[congr] theorem e48 {j:Nat} {xs:List (Bool×X)} {o o':Option St} (h:o=o'):pss N j xs o=pss N j xs o':=by rw [h]
@[go_sem] theorem f5d {j:Nat}:gvs N j [] (some st)=some st:=(rfl)
@[go_sem] theorem g3d {j:Nat} {x:X} {xs:List (Bool×X)}:gvs N j ((true,x)::xs) (some st)=gvs N (j+1) xs (gvS st N x j (rdv st x)):=(rfl)
@[go_sem] theorem g3c {j:Nat} {x:X} {xs:List (Bool×X)}:gvs N j ((false,x)::xs) (some st)=gvs N (j+1) xs (some st):=(rfl)
@[go_sem] theorem f7o {j:Nat}:pss N j [] (some st)=some st:=(rfl)
@[go_sem] theorem g3o {j:Nat} {x:X} {xs:List (Bool×X)}:pss N j ((false,x)::xs) (some st)=pss N (j+1) xs (psS st N x j (rdv st x)):=(rfl)
@[go_sem] theorem g3p {j:Nat} {x:X} {xs:List (Bool×X)}:pss N j ((true,x)::xs) (some st)=pss N (j+1) xs (some st):=(rfl)
theorem d0s {j:Nat} {xs:List (Bool×X)}:gvs N j xs none=none:=by cases xs<;>rfl
theorem d1f {j:Nat} {xs:List (Bool×X)}:pss N j xs none=none:=by cases xs<;>rfl
theorem a6u:∀ (xs:List (Bool×X)) (j:Nat) (st:St),((a41 N j xs).run st).map (·.2)=gvs N j xs (some st)
 | [],j,st=>rfl
 | (b,x)::xs,j,st=>by
  simp only [a41,Ev.run_bind,Option.bind]
  cases b with
  | true=>
   have h:=c78 (N:=N) (st:=st) x j
   simp only [if_true,gvs]
   rw [<-h]
   cases (c1t N x j).run st with
   | none=>simp [d0s]
   | some r=>exact a6u xs (j+1) r.2
  | false=>
   simp only [Bool.false_eq_true,if_false,Ev.run_pure]
   exact a6u xs (j+1) st
theorem a3r:∀ (xs:List (Bool×X)) (j:Nat) (st:St),((a3e N j xs).run st).map (·.2)=pss N j xs (some st)
 | [],j,st=>rfl
 | (b,x)::xs,j,st=>by
  simp only [a3e,Ev.run_bind,Option.bind]
  cases b with
  | false=>
   have h:=c8a (N:=N) (st:=st) x j
   simp only [Bool.false_eq_true,if_false,pss]
   rw [<-h]
   cases (b7v N x j).run st with
   | none=>simp [d1f]
   | some r=>exact a3r xs (j+1) r.2
  | true=>
   simp only [if_true,Ev.run_pure]
   exact a3r xs (j+1) st
def a9w (st:St) (N:Nat) (d:Option Nat) (res:AV):St:=match d with
 | some d=>(st.clear N).thru N d res
 | none=>st.clear N
@[go_sem] theorem e1x {d:Nat} {res:AV}:a9w st N (some d) res=(st.clear N).thru N d res:=(rfl)
@[go_sem] theorem e1w {res:AV}:a9w st N none res=st.clear N:=(rfl)
def cal (P:Program) (G:GG) (N:Nat) (d:Option Nat) (f:FuncId) (pre:List AV) (st1 st2:St) (K:St->Prop):Prop:=
 ∃ res,ACalls P G f pre res/\noRef res=true/\K (a9w (if a0x res then st1 else st2) N d res)
def c9n (P:Program) (G:GG) (N:Nat) (d:Option Nat) (f:FuncId) (n:Nat) (o1 o2:Option St) (K:St->Prop):Prop:=match o1,o2 with
 | some st1,some st2=>cal P G N d f (a4v N n st2) st1 st2 K
 | _,_=>False
def d3k (P:Program) (G:GG) (N:Nat) (d:Option Nat) (f:FuncId) (args:List (Bool×X)) (o1:Option St) (K:St->Prop):Prop:=c9n P G N d f args.length o1 (pss N (N+2) args o1) K
@[congr] theorem d6l {d:Option Nat} {f:FuncId} {args:List (Bool×X)} {o1 o1':Option St} (h:o1=o1'):d3k P G N d f args o1 K=d3k P G N d f args o1' K:=by rw [h]
@[congr] theorem d6m {d:Option Nat} {f:FuncId} {n:Nat} {o1 o2 o2':Option St} (h:o2=o2'):c9n P G N d f n o1 o2 K=c9n P G N d f n o1 o2' K:=by rw [h]
@[congr] theorem e0m {d:Option Nat} {f:FuncId} {pre pre':List AV} {st1 st2:St} (h:pre=pre'):cal P G N d f pre st1 st2 K=cal P G N d f pre' st1 st2 K:=by rw [h]
@[go_sem] theorem e0k {d:Option Nat} {f:FuncId} {args:List (Bool×X)}:d3k P G N d f args (some st) K=c9n P G N d f args.length (some st) (pss N (N+2) args (some st)) K:=(rfl)
@[go_sem] theorem e0l {d:Option Nat} {f:FuncId} {n:Nat} {st2:St}:c9n P G N d f n (some st) (some st2) K=cal P G N d f (a4v N n st2) st st2 K:=(rfl)
@[go_sem] theorem d9m {d:Option Nat} {f:FuncId} {args:List (Bool×X)} {tys:List TypeId} {rest:List AO}:a8z P G N (⟨d,.call f args tys,none⟩::rest) K st=d3k P G N d f args (gvs N (N+2) args (some st)) (a8z P G N rest K):=by
 simp only [a8z,a9e,b48,d21]
 rw [<-a6u]
 apply propext
 constructor
 ·rintro ⟨st1,st2,res,st3,h1,h2,h3,h4,h5,h6⟩
  have e2:=a3r (N:=N) args (N+2) st1
  rw [h2] at e2
  simp only [h1,Option.map,d3k,c9n,<-e2]
  refine ⟨res,h3,h4,?_⟩
  have:a9w (if a0x res then st1 else st2) N d res=st3:=by
   cases d with
   | none=>
    simp only [c0k,Ev.run_pure,Option.some.injEq,Prod.mk.injEq,true_and] at h5
    exact h5
   | some d=>
    simp only [c0k,a6v,Option.some.injEq,Prod.mk.injEq,true_and] at h5
    exact h5
  rw [this]; exact h6
 ·cases h1:(a41 N (N+2) args).run st with
  | none=>intro h; simp only [Option.map,d3k,c9n] at h
  | some r=>
   obtain ⟨_,st1⟩:=r
   simp only [Option.map,d3k]
   rw [<-a3r]
   cases h2:(a3e N (N+2) args).run st1 with
   | none=>intro h; simp only [Option.map,c9n] at h
   | some r2=>
    obtain ⟨_,st2⟩:=r2
    simp only [Option.map,c9n]
    rintro ⟨res,h3,h4,h5⟩
    refine ⟨st1,st2,res,_,rfl,h2,h3,h4,?_,h5⟩
    cases d<;>rfl
@[go_sem] theorem f69:a4v N 0 st=[]:=(rfl)
@[go_sem] theorem f7a:a4v N 1 st=[st.s (N+2+0)]:=(rfl)
@[go_sem] theorem f7b:a4v N 2 st=[st.s (N+2+0),st.s (N+2+1)]:=(rfl)
@[go_sem] theorem f7c:a4v N 3 st=[st.s (N+2+0),st.s (N+2+1),st.s (N+2+2)]:=(rfl)
@[go_sem] theorem f7d:a4v N 4 st=[st.s (N+2+0),st.s (N+2+1),st.s (N+2+2),st.s (N+2+3)]:=(rfl)
@[go_sem] theorem f7e:a4v N 5 st=[st.s (N+2+0),st.s (N+2+1),st.s (N+2+2),st.s (N+2+3),st.s (N+2+4)]:=(rfl)
@[go_sem] theorem f7f:a4v N 6 st=[st.s (N+2+0),st.s (N+2+1),st.s (N+2+2),st.s (N+2+3),st.s (N+2+4),st.s (N+2+5)]:=(rfl)
theorem a0e {d:Option Nat} {f:FuncId} {pre:List AV} {st1 st2:St} {res:AV} (hA:ACalls P G f pre res) (hn:noRef res=true) (hi:a0x res=true) (h:K (a9w st1 N d res)):cal P G N d f pre st1 st2 K:=⟨res,hA,hn,by rw [hi]; exact h⟩
theorem c59 {d:Option Nat} {f:FuncId} {pre:List AV} {st1 st2:St} {res:AV} (hA:ACalls P G f pre res) (hn:noRef res=true) (hi:a0x res=false) (h:K (a9w st2 N d res)):cal P G N d f pre st1 st2 K:=⟨res,hA,hn,by rw [hi]; exact h⟩
theorem b1d {d:Option Nat} {f:FuncId} {pre:List AV} {st1 st2:St} {res:AV} (hA:ACalls P G f pre res) (hn:noRef res=true) (h:K (a9w st1 N d res)) (h2:K (a9w st2 N d res)):cal P G N d f pre st1 st2 K:=⟨res,hA,hn,by split; exact h; exact h2⟩
inductive RV where
 | tmp (t:Nat)
 | cell (t:Nat)
 | cells (t sz:Nat)
def RV.ok (P:Program) (N:Nat):RV->ResultVar->Bool
 | .tmp t,.tmp t'=>t==t'&&decide (t < N)
 | .cell t,.cell t' T=>t==t'&&decide (t < N)&&b5n P T==some false
 | .cells t sz,.cell t' T=>t==t'&&decide (t < N)&&b5n P T==some true&&a8w P T sz
 | _,_=>false
def b97 (r:RV) (st:St):Option AV:=match r with
 | .tmp t=>if noRef (st.s t) then some (st.s t) else none
 | .cell t=>match st.s t with
  | .var [k]=>some k
  | _=>none
 | .cells t sz=>match st.s t with
  | .var ks=>gO (ks.length=sz) (some (.agg ks))
  | _=>none
theorem c2n {r:RV} {v:ResultVar} {k:AV} (h:r.ok P N v=true) (hk:b97 r st=some k):b2g P N st v=some k:=by
 cases r with
 | tmp t=>
  cases v<;>simp only [RV.ok,Bool.and_eq_true,beq_iff_eq,decide_eq_true_eq,Bool.false_eq_true] at h
  obtain ⟨rfl,h⟩:=h
  simp only [b97] at hk
  simp only [b2g,h,decide_true,Bool.true_and]
  exact hk
 | cell t=>
  cases v<;>simp only [RV.ok,Bool.and_eq_true,beq_iff_eq,decide_eq_true_eq,Bool.false_eq_true] at h
  obtain ⟨⟨rfl,h1⟩,h2⟩:=h
  simp only [b97] at hk
  simp only [b2g,h1,if_true]
  split at hk
  ·rename_i k' hs
   rw [hs]
   simp only [h2]
   exact hk
  ·cases hk
 | cells t sz=>
  cases v<;>simp only [RV.ok,Bool.and_eq_true,beq_iff_eq,decide_eq_true_eq,Bool.false_eq_true] at h
  obtain ⟨⟨⟨rfl,h1⟩,h2⟩,h3⟩:=h
  simp only [b97] at hk
  simp only [b2g,h1,if_true]
  split at hk
  ·rename_i ks hs
   simp only [gO] at hk
   split at hk
   ·rename_i hl
    rw [hs]
    simp only [h2,hl,h3,if_true]
    exact hk
   ·cases hk
  ·cases hk
def rvL:List RV->St->Option (List AV)
 | [],_=>some []
 | r::rs,st=>match b97 r st,rvL rs st with
  | some k,some ks=>some (k::ks)
  | _,_=>none
def b98 (P:Program) (N:Nat):List RV->List ResultVar->Bool
 | [],[]=>true
 | r::rs,v::vs=>r.ok P N v&&b98 P N rs vs
 | _,_=>false
theorem b4p:∀ {rs:List RV} {vs:List ResultVar} {ks:List AV},b98 P N rs vs=true->rvL rs st=some ks->d2t P N st vs=some ks
 | [],[],ks,_,hk=>hk
 | [],_::_,ks,h,_=>by cases h
 | _::_,[],ks,h,_=>by cases h
 | r::rs,v::vs,ks,h,hk=>by
  simp only [b98,Bool.and_eq_true] at h
  simp only [rvL] at hk
  split at hk
  ·rename_i k ks' h1 h2
   simp only [d2t,c2n h.1 h1,b4p h.2 h2]
   exact hk
  ·cases hk
def d83 (rs:List RV) (st:St):Option AV:=match rvL rs st with
 | some [k]=>some k
 | some ks=>some (.tup ks)
 | none=>none
def c95 (rs:List RV) (res:AV):Exit->St->Prop
 | .normal,st | .ret,st=>d83 rs st=some res
 | _,_=>False
@[congr] theorem d7c {rs:List RV} {res:AV} {e:Exit} {st':St} (h2:st=st'):c95 rs res e st=c95 rs res e st':=by rw [h2]
def rv1 (r:RV) (v:AV):Option AV:=match r with
 | .tmp t=>if noRef v then some v else none
 | .cell t=>match v with
  | .var [k]=>some k
  | _=>none
 | .cells t sz=>match v with
  | .var ks=>gO (ks.length=sz) (some (.agg ks))
  | _=>none
def avs (a:Option AV) (l:Option (List AV)):Option (List AV):=match a,l with
 | some k,some ks=>some (k::ks)
 | _,_=>none
def d50 (l:Option (List AV)):Option AV:=match l with
 | some [k]=>some k
 | some ks=>some (.tup ks)
 | none=>none
@[go_sem] theorem g2r {k:AV}:d50 (some [k])=some k:=(rfl)
@[go_sem] theorem g2q:d50 (some [])=some (.tup []):=(rfl)
@[go_sem] theorem g2s {a b:AV} {ks:List AV}:d50 (some (a::b::ks))=some (.tup (a::b::ks)):=(rfl)
@[go_sem] theorem e7n {k:AV} {ks:List AV}:avs (some k) (some ks)=some (k::ks):=(rfl)
@[go_sem] theorem f7w {t:Nat} {v:AV}:rv1 (.tmp t) v=if noRef v then some v else none:=(rfl)
@[go_sem] theorem f1a {t:Nat} {k:AV}:rv1 (.cell t) (.var [k])=some k:=(rfl)
@[go_sem] theorem e55 {t sz:Nat} {ks:List AV}:rv1 (.cells t sz) (.var ks)=gO (ks.length=sz) (some (.agg ks)):=(rfl)
@[go_sem] theorem f7x:rvL [] st=some []:=(rfl)
@[go_sem] theorem f7y {t:Nat} {rs:List RV}:rvL (.tmp t::rs) st=avs (rv1 (.tmp t) (st.s t)) (rvL rs st):=by
 simp only [rvL,avs,b97,rv1]
@[go_sem] theorem f1b {t:Nat} {rs:List RV}:rvL (.cell t::rs) st=avs (rv1 (.cell t) (st.s t)) (rvL rs st):=by
 simp only [rvL,avs,b97,rv1]
@[go_sem] theorem e56 {t sz:Nat} {rs:List RV}:rvL (.cells t sz::rs) st=avs (rv1 (.cells t sz) (st.s t)) (rvL rs st):=by
 simp only [rvL,avs,b97,rv1]
@[go_sem] theorem g0h {rs:List RV} {res:AV}:c95 rs res .normal st=(d50 (rvL rs st)=some res):=(rfl)
@[go_sem] theorem g0i {rs:List RV} {res:AV}:c95 rs res .ret st=(d50 (rvL rs st)=some res):=(rfl)
theorem c4h {rs:List RV} {vs:List ResultVar} {res:AV} (h:b98 P N rs vs=true):∀ e st,c95 rs res e st->d7a P N vs res e st:=by
 intro e st hq
 have key:d83 rs st=some res->b4i P N st vs=some res:=by
  intro hk
  unfold d83 at hk
  cases hl:rvL rs st with
  | none=>rw [hl] at hk; cases hk
  | some ks=>
   rw [hl] at hk
   simp only [b4i,b4p h hl]
   exact hk
 cases e<;>first | exact key hq | exact hq
end
theorem ACalls.of_walk {P:Program} {G:GG} {f:FuncId} {fn:Func} {c:Code} {N:Nat} {vs:List ResultVar} {rs:List RV} {ic:IC} (hord:P.follows .mixedOrders=true) (hf:P.funcs[f]? =some fn) (hb:fn.body=some c) (hN:fn.ntmps=N) (hrs:fn.results.toList=vs) (hnd:(vs.map rvT).Nodup)
  (he:a8t c=ic.ec) (hok:ic.ok P N=true) (hr:b98 P N rs vs=true) {pre:List AV} {res:AV} (hsz:pre.length<=N) (h:AW P G N ic (c95 rs res) (St.init pre)):ACalls P G f pre res:=
 b49 hf hb hN hrs hnd hsz ((c2v hord ic c _ _ he hok (IC.pin_nil ic) h).mono (c4h hr))
section
variable {k:IntKind} {a b:Int}
theorem a3x {b:BinOp} {k:IntKind} {x y:Int} {v:Value} (h:a1y b (.int k x) (.int k y)=some v) {kd:Nat} (hk:kd=0):a28 b kd (.lit (.int k x)) (.lit (.int k y))=some (.lit v):=by
 subst hk; simp [a28,c4u,h]
theorem d28:a1y .add (.int k a) (.int k b)=some (.int k (k.wrap (a+b))):=by simp [a1y,Op.intArith]; rfl
theorem d3j:a1y .sub (.int k a) (.int k b)=some (.int k (k.wrap (a - b))):=by simp [a1y,Op.intArith]; rfl
theorem d3e:a1y .mul (.int k a) (.int k b)=some (.int k (k.wrap (a*b))):=by simp [a1y,Op.intArith]; rfl
theorem d29:a1y .eql (.int k a) (.int k b)=some (.bool (a==b)):=by simp [a1y,Op.intCmp]; rfl
theorem d3f:a1y .neq (.int k a) (.int k b)=some (.bool (a != b)):=by simp [a1y,Op.intCmp]; rfl
theorem d3d:a1y .lss (.int k a) (.int k b)=some (.bool (decide (a < b))):=by simp [a1y,Op.intCmp]; rfl
theorem d3c:a1y .leq (.int k a) (.int k b)=some (.bool (decide (a<=b))):=by simp [a1y,Op.intCmp]; rfl
theorem d3b:a1y .gtr (.int k a) (.int k b)=some (.bool (decide (a > b))):=by simp [a1y,Op.intCmp]; rfl
theorem d3a:a1y .geq (.int k a) (.int k b)=some (.bool (decide (a ≥ b))):=by simp [a1y,Op.intCmp]; rfl
@[go_sem] theorem f87:a28 .add 0 (.lit (.int k a)) (.lit (.int k b))=some (.lit (.int k (k.wrap (a+b)))):=a3x d28 rfl
@[go_sem] theorem f9i:a28 .sub 0 (.lit (.int k a)) (.lit (.int k b))=some (.lit (.int k (k.wrap (a - b)))):=a3x d3j rfl
@[go_sem] theorem f9d:a28 .mul 0 (.lit (.int k a)) (.lit (.int k b))=some (.lit (.int k (k.wrap (a*b)))):=a3x d3e rfl
@[go_sem] theorem f88:a28 .eql 0 (.lit (.int k a)) (.lit (.int k b))=some (.lit (.bool (decide (a=b)))):=by
 rw [a3x d29 rfl]; simp only [Option.some.injEq,AV.lit.injEq,Value.bool.injEq]; by_cases h:a=b<;>simp [h]
@[go_sem] theorem f9e:a28 .neq 0 (.lit (.int k a)) (.lit (.int k b))=some (.lit (.bool (!decide (a=b)))):=by
 rw [a3x d3f rfl]; simp only [Option.some.injEq,AV.lit.injEq,Value.bool.injEq]; by_cases h:a=b<;>simp [h]
@[go_sem] theorem f9c:a28 .lss 0 (.lit (.int k a)) (.lit (.int k b))=some (.lit (.bool (decide (a < b)))):=a3x d3d rfl
@[go_sem] theorem f9b:a28 .leq 0 (.lit (.int k a)) (.lit (.int k b))=some (.lit (.bool (decide (a<=b)))):=a3x d3c rfl
@[go_sem] theorem f9a:a28 .gtr 0 (.lit (.int k a)) (.lit (.int k b))=some (.lit (.bool (decide (b < a)))):=a3x d3b rfl
@[go_sem] theorem f89:a28 .geq 0 (.lit (.int k a)) (.lit (.int k b))=some (.lit (.bool (decide (b<=a)))):=a3x d3a rfl
end
section
variable {a b:Bool}
@[go_sem] theorem f2d:a28 .eql 1 (.lit (.bool a)) (.lit (.bool b))=some (.lit (.bool (decide (a=b)))):=by cases a<;>cases b<;>rfl
@[go_sem] theorem f2e:a28 .neq 1 (.lit (.bool a)) (.lit (.bool b))=some (.lit (.bool (!decide (a=b)))):=by cases a<;>cases b<;>rfl
@[go_sem] theorem d90:a28 .eql 2 (.lit .nilIface) (.lit .nilIface)=some (.lit (.bool true)):=(rfl)
@[go_sem] theorem d93:a28 .neq 2 (.lit .nilIface) (.lit .nilIface)=some (.lit (.bool false)):=(rfl)
@[go_sem] theorem d9z {T:TypeId} {v:Value}:a28 .eql 2 (.lit (.iface T v)) (.lit .nilIface)=some (.lit (.bool false)):=(rfl)
@[go_sem] theorem d92 {T:TypeId} {v:Value}:a28 .neq 2 (.lit (.iface T v)) (.lit .nilIface)=some (.lit (.bool true)):=(rfl)
@[go_sem] theorem d9y {T:TypeId} {k:AV}:a28 .eql 2 (.ifc T k) (.lit .nilIface)=some (.lit (.bool false)):=(rfl)
@[go_sem] theorem d91 {T:TypeId} {k:AV}:a28 .neq 2 (.ifc T k) (.lit .nilIface)=some (.lit (.bool true)):=(rfl)
@[go_sem] theorem d95:a28 .eql 3 (.lit (.pointer none)) (.lit (.pointer none))=some (.lit (.bool true)):=(rfl)
@[go_sem] theorem d97:a28 .neq 3 (.lit (.pointer none)) (.lit (.pointer none))=some (.lit (.bool false)):=(rfl)
@[go_sem] theorem d94 {ks:List AV} {o:Nat}:a28 .eql 3 (.ip ks o) (.lit (.pointer none))=some (.lit (.bool false)):=(rfl)
@[go_sem] theorem d96 {ks:List AV} {o:Nat}:a28 .neq 3 (.ip ks o) (.lit (.pointer none))=some (.lit (.bool true)):=(rfl)
end
theorem f2u {p:Prop} [Decidable p] (h:p):decide p=true:=decide_eq_true h
theorem f2t {p:Prop} [Decidable p] (h:¬ p):decide p=false:=decide_eq_false h
theorem a8g {n:Int} (h: -9223372036854775808<=n/\n<=9223372036854775807):IntKind.i64.wrap n=n:=by rw [IntKind.wrap_i64]; omega
section
variable {α:Type} {f:α->AV}
theorem d4e [Inhabited α] {xs:List α} {i:Nat} (h:i < xs.length):(xs.map f)[i]? =some (f xs[i]!):=by
 simp [h]
theorem b1y {β:Type} {l:List β} {o:Nat} {v:β} (h:o < l.length):a0h l o [v]=l.set o v:=by
 simp only [a0h,List.length_cons,List.length_nil]
 rw [List.set_eq_take_append_cons_drop,if_pos h]
 simp
theorem c5l {xs:List α} {o:Nat} {v:AV} (h:o < xs.length):a0h (xs.map f) o [v]=(xs.map f).set o v:=b1y (by simpa using h)
theorem b72 {xs:List α} {o i:Nat} {v w:AV} (h:o < xs.length):a0h ((xs.map f).set i w) o [v]=((xs.map f).set i w).set o v:=b1y (by simpa using h)
@[go_sem] theorem d2y {xs:List α}:List.take xs.length (xs.map f)=xs.map f:=List.take_of_length_le (by simp)
end
@[go_sem] theorem d89 {α:Type} {l:List α} {o:Nat}:a0h l o []=l:=by simp [a0h]
@[go_sem] theorem f1j {α:Type} {a x:α} {l xs:List α}:a0h (a::l) 0 (x::xs)=x::a0h l 0 xs:=by simp [a0h]
@[go_sem] theorem f1i {α:Type} {a:α} {l xs:List α} {o:Nat}:a0h (a::l) (o+1) xs=a::a0h l o xs:=by
 simp [a0h,show o+1+xs.length=(o+xs.length)+1 by omega]
@[go_sem] theorem b1s {α:Type} {f:α->AV} {xs:List α} (h:∀ x,a0n (f x)=true):a0m (xs.map f)=true:=by
 induction xs with
 | nil=>rfl
 | cons x xs ih=>simp [a0m,h,ih]
@[go_sem] theorem b1q {α:Type} {f:α->AV} {xs:List α} (h:∀ x,a0x (f x)=true):a03 (xs.map f)=true:=by
 induction xs with
 | nil=>rfl
 | cons x xs ih=>simp [a03,h,ih]
@[go_sem] theorem e8w {α:Type} {f:α->AV} {xs:List α}:a1k (xs.map f)=xs.map fun x=>frz (f x):=by
 induction xs with
 | nil=>rfl
 | cons x xs ih=>simp [a1k,ih]
@[go_sem] theorem g2c {n:Nat} {z:AV}:a6w n [z]=List.replicate n z:=by
 simp only [a6w]; induction n with
 | zero=>rfl
 | succ n ih=>simp [List.replicate_succ,ih]
def iG (v:Option AV):AV:=match v with
 | some v=>v
 | none=> .lit undef
@[go_sem] theorem f5g {v:AV}:iG (some v)=v:=(rfl)
@[go_sem] theorem f5f:iG none= .lit undef:=(rfl)
@[go_sem] theorem f7z {pre:List AV} {t:Nat}:(St.init pre).s t=iG pre[t]? :=by
 simp only [St.init,iG]; cases pre[t]? <;>rfl
@[go_sem] theorem f1d {pre:List AV} {t:Nat}:(St.init pre).ep t=0:=(rfl)
attribute [go_sem] List.getElem?_cons_zero List.getElem?_cons_succ List.getElem?_nil List.map_nil List.map_cons List.length_cons List.length_nil Nat.zero_add Nat.add_zero Nat.mul_one Nat.mul_zero Nat.zero_mul List.set_cons_zero List.set_cons_succ List.append_nil List.nil_append List.cons_append List.drop_zero List.take_zero List.drop_succ_cons List.take_succ_cons List.take_nil List.drop_nil Int.toNat_natCast List.length_map List.isEmpty_nil List.isEmpty_cons beq_self_eq_true Option.map_some Option.map_none decide_true decide_false and_true true_and Bool.true_or Bool.or_true Bool.false_or Bool.or_false List.take_length List.length_replicate List.map_map Function.comp_def Option.some.injEq
section
variable {P:Program} {G:GG} {N:Nat}
theorem a1c {Q:Exit->St->Prop} {st:St} {a:IC} (ι:Type) (I:ι->St->Prop) (μ:ι->Nat) (i0:ι) (h0:I i0 st) (h:∀ i st K,I i st->(∀ i' st',I i' st'->μ i' < μ i->K st')->AW P G N a (b05 K Q) st):AW P G N (.loop a) Q st:=
 ⟨ι,I,μ,i0,h0,fun i st hi=>h i st _ hi fun i' st' h1 h2=>⟨i',h1,h2⟩⟩
section
variable {kl:Nat->List Nat->Bool} {v:Value} {n sz o e t lo f T:Nat} {q:List Nat} {ks a b:List AV} {k:AV}
@[go_sem] theorem d7u:a06 kl .dead= .dead:=by simp only [a06]
@[go_sem] theorem e2w:a06 kl (.lit v)= .lit v:=by simp only [a06]
@[go_sem] theorem e9a:a06 kl (.sl n ks)= .sl n ks:=by simp only [a06]
@[go_sem] theorem e89:a06 kl (.ip ks o)= .ip ks o:=by simp only [a06]
@[go_sem] theorem e2x:a06 kl (.own sz n ks)= .own sz n ks:=by simp only [a06]
@[go_sem] theorem e20:a06 kl (.var ks)= .var ks:=by simp only [a06]
@[go_sem] theorem e2t:a06 kl (.agg ks)= .agg ks:=by simp only [a06]
@[go_sem] theorem e2z:a06 kl (.tup ks)= .tup ks:=by simp only [a06]
@[go_sem] theorem e2v:a06 kl (.ifc T k)= .ifc T k:=by simp only [a06]
@[go_sem] theorem e88:a06 kl (.fn f a b)= .fn f (b2v kl a) (b2v kl b):=by simp only [a06]
@[go_sem] theorem e2y:a06 kl (.ref t q o e)=if kl t q then .dead else .ref t q o e:=by simp only [a06]
@[go_sem] theorem e2u:a06 kl (.bor t q lo n e)=if kl t q then .dead else .bor t q lo n e:=by simp only [a06]
@[go_sem] theorem e4j:a0n (.lit v)=true:=by simp only [a0n]
@[go_sem] theorem e96:a0n (.sl n ks)=true:=by simp only [a0n]
@[go_sem] theorem e95:a0n (.ip ks o)=true:=by simp only [a0n]
@[go_sem] theorem e94:a0n (.fn f a b)=true:=by simp only [a0n]
@[go_sem] theorem e4l:a0n (.ref t q o e)=true:=by simp only [a0n]
@[go_sem] theorem e4h:a0n (.bor t q lo n e)=true:=by simp only [a0n]
@[go_sem] theorem f4j:frz (.lit v)= .lit v:=by simp only [frz]
@[go_sem] theorem g0s:frz (.sl n ks)= .sl n ks:=by simp only [frz]
@[go_sem] theorem g0r:frz (.ip ks o)= .ip ks o:=by simp only [frz]
@[go_sem] theorem g0q:frz (.fn f a b)= .fn f a b:=by simp only [frz]
@[go_sem] theorem e39:a0x (.lit v)=true:=by simp only [a0x]
@[go_sem] theorem d8a:a0x .dead=true:=by simp only [a0x]
@[go_sem] theorem e4k:a0n (.own sz n ks)=false:=by simp only [a0n]
@[go_sem] theorem e4n:a0n (.var ks)=false:=by simp only [a0n]
@[go_sem] theorem e4g:a0n (.agg ks)=a0m ks:=by simp only [a0n]
@[go_sem] theorem e4m:a0n (.tup ks)=a0m ks:=by simp only [a0n]
@[go_sem] theorem e4i:a0n (.ifc T k)=a0n k:=by simp only [a0n]
@[go_sem] theorem f4k:frz (.own sz n ks)= .sl n (a1k ks):=by simp only [frz]
@[go_sem] theorem f4m:frz (.var ks)= .ip (a1k ks) 0:=by simp only [frz]
@[go_sem] theorem f4h:frz (.agg ks)= .agg (a1k ks):=by simp only [frz]
@[go_sem] theorem f4l:frz (.tup ks)= .tup (a1k ks):=by simp only [frz]
@[go_sem] theorem f4i:frz (.ifc T k)= .ifc T (frz k):=by simp only [frz]
@[go_sem] theorem e93:a0x (.sl n ks)=ks.isEmpty:=by simp only [a0x]
@[go_sem] theorem e92:a0x (.ip ks o)=false:=by simp only [a0x]
@[go_sem] theorem e4a:a0x (.own sz n ks)=a03 ks:=by simp only [a0x]
@[go_sem] theorem e4c:a0x (.var ks)=a03 ks:=by simp only [a0x]
@[go_sem] theorem e37:a0x (.agg ks)=a03 ks:=by simp only [a0x]
@[go_sem] theorem e4b:a0x (.tup ks)=a03 ks:=by simp only [a0x]
@[go_sem] theorem e38:a0x (.ifc T k)=a0x k:=by simp only [a0x]
@[go_sem] theorem e91:a0x (.fn f a b)=(a03 a&&a03 b):=by simp only [a0x]
@[go_sem] theorem e4t:noRef (.ref t q o e)=false:=by simp only [noRef]
@[go_sem] theorem e4p:noRef (.bor t q lo n e)=false:=by simp only [noRef]
@[go_sem] theorem e97:noRef (.fn f a b)=(a3w.noRefL a&&a3w.noRefL b):=by simp only [noRef]
@[go_sem] theorem e4r:noRef (.lit v)=true:=by simp only [noRef]
@[go_sem] theorem e99:noRef (.sl n ks)=true:=by simp only [noRef]
@[go_sem] theorem e98:noRef (.ip ks o)=true:=by simp only [noRef]
@[go_sem] theorem e4s:noRef (.own sz n ks)=true:=by simp only [noRef]
@[go_sem] theorem e4v:noRef (.var ks)=true:=by simp only [noRef]
@[go_sem] theorem e4o:noRef (.agg ks)=true:=by simp only [noRef]
@[go_sem] theorem e4u:noRef (.tup ks)=true:=by simp only [noRef]
@[go_sem] theorem e4q:noRef (.ifc T k)=true:=by simp only [noRef]
end
attribute [go_sem] f2u f2t e2h a8g d4e c5l b72 List.set_set List.map_append List.length_append List.length_set
end
theorem a34 {N:Nat} {α β:Type}:∀ (x:Ev α) (f:α->Ev β) (st:St) (sw:List Nat),(x >>=f).runF N st sw=(x.runF N st sw).bind fun r=>((f r.a).runF N r.st r.sw).map fun r2=>{ r2 with rd:=r.rd++r2.rd,wr:=r.wr++r2.wr }
 | .ret a,f,st,sw=>by
  show (f a).runF N st sw=_
  simp [Ev.runF]
 | .fail,f,st,sw=>rfl
 | .get t k,f,st,sw=>by
  show (Ev.get t fun v e=>k v e >>=f).runF N st sw=_
  simp only [Ev.runF]
  split
  ·rw [a34]
   cases (k (st.s t) (st.ep t)).runF N st sw with
   | none=>rfl
   | some r=>simp [Function.comp_def]
  ·rfl
 | .getv t k,f,st,sw=>by
  show (Ev.getv t fun v=>k v >>=f).runF N st sw=_
  simp only [Ev.runF]
  split
  ·rw [a34]
   cases (k (st.s t)).runF N st sw with
   | none=>rfl
   | some r=>simp [Function.comp_def]
  ·split
   ·rw [a34]
   ·rfl
 | .put t v k,f,st,sw=>by
  show (Ev.put t v (k >>=f)).runF N st sw=_
  simp only [Ev.runF]
  split
  ·rw [a34]
   cases k.runF N (st.put t v) sw with
   | none=>rfl
   | some r=>simp [Function.comp_def]
  ·rw [a34]
 | .upd t v k,f,st,sw=>by
  show (Ev.upd t v (k >>=f)).runF N st sw=_
  simp only [Ev.runF]
  split
  ·rw [a34]
   cases k.runF N (st.set t v) sw with
   | none=>rfl
   | some r=>simp [Function.comp_def]
  ·rw [a34]
 | .kill t q o m k,f,st,sw=>by
  show (Ev.kill t q o m (k >>=f)).runF N st sw=_
  simp only [Ev.runF]
  rw [a34]
  cases k.runF N (st.kill t q o m) sw with
  | none=>rfl
  | some r=>simp [Function.comp_def]
def a2m:AV->Option Nat
 | .ref t _ _ _=>some t
 | .bor t _ _ _ _=>some t
 | _=>none
def FpP (D:Nat->Prop) (N:Nat) {α:Type} (e:Ev α) (st:St) (sw:List Nat) (Post:α->St->List Nat->Prop):Prop:=
 ∀ a st',e.run st=some (a,st')->∃ rd wr sw',e.runF N st sw=some ⟨a,st',rd,wr,sw'⟩/\(∀ t∈rd,D t)/\(∀ t∈wr,D t)/\Post a st' sw'
section
variable {D:Nat->Prop} {N:Nat} {α β:Type} {st:St} {sw:List Nat} {Post:β->St->List Nat->Prop} {f:α->Ev β}
theorem FpP.bindM {x:Ev α} (h:FpP D N x st sw (fun a st' sw'=>FpP D N (f a) st' sw' Post)):FpP D N (x >>=f) st sw Post:=by
 intro a st' hr
 rw [Ev.run_bind] at hr
 cases hx:x.run st with
 | none=>rw [hx] at hr; cases hr
 | some r=>
  obtain ⟨b,st1⟩:=r
  rw [hx] at hr
  obtain ⟨rd,wr,sw1,h1,h2,h3,h4⟩:=h b st1 hx
  obtain ⟨rd2,wr2,sw2,g1,g2,g3,g4⟩:=h4 a st' hr
  refine ⟨rd++rd2,wr++wr2,sw2,?_,?_,?_,g4⟩
  ·rw [a34,h1]; simp only [Option.bind,g1,Option.map]
  ·intro t ht; rcases List.mem_append.1 ht with ht | ht; exact h2 t ht; exact g2 t ht
  ·intro t ht; rcases List.mem_append.1 ht with ht | ht; exact h3 t ht; exact g3 t ht
theorem FpP.mono {Q:α->St->List Nat->Prop} {P:α->St->List Nat->Prop} {x:Ev α} (h:FpP D N x st sw P) (hpq:∀ a st' sw',P a st' sw'->Q a st' sw'):FpP D N x st sw Q:=by
 intro a st' hr
 obtain ⟨rd,wr,sw1,h1,h2,h3,h4⟩:=h a st' hr
 exact ⟨rd,wr,sw1,h1,h2,h3,hpq _ _ _ h4⟩
theorem FpP.ret {a:α} {P:α->St->List Nat->Prop} (h:P a st sw):FpP D N (Ev.ret a) st sw P:=by
 intro b st' hr
 simp only [Ev.run,Option.some.injEq,Prod.mk.injEq] at hr
 obtain ⟨rfl,rfl⟩:=hr
 exact ⟨[],[],sw,rfl,by simp,by simp,h⟩
theorem FpP.fail {P:α->St->List Nat->Prop}:FpP D N (Ev.fail:Ev α) st sw P:=by
 intro b st' hr; cases hr
theorem FpP.get {t:Nat} {P:(AV×Nat)->St->List Nat->Prop} (hD:D t) (hN:t < N) (h:P (st.s t,st.ep t) st sw):FpP D N (b1l t) st sw P:=by
 intro b st' hr
 rw [a1m] at hr
 simp only [Option.some.injEq,Prod.mk.injEq] at hr
 obtain ⟨rfl,rfl⟩:=hr
 exact ⟨[t],[],sw,by simp [b1l,Ev.runF,hN],by simpa using hD,by simp,h⟩
theorem FpP.getv {t:Nat} {P:AV->St->List Nat->Prop} (hN:¬ t < N) (hs:t∈sw) (h:P (st.s t) st sw):FpP D N (c1s t) st sw P:=by
 intro b st' hr
 rw [a4w] at hr
 simp only [Option.some.injEq,Prod.mk.injEq] at hr
 obtain ⟨rfl,rfl⟩:=hr
 exact ⟨[],[],sw,by simp [c1s,Ev.runF,hN,hs],by simp,by simp,h⟩
theorem FpP.put {t:Nat} {v:AV} {P:Unit->St->List Nat->Prop} (hD:D t) (hN:t < N) (h:P () (st.put t v) sw):FpP D N (a2v t v) st sw P:=by
 intro b st' hr
 rw [a51] at hr
 simp only [Option.some.injEq,Prod.mk.injEq,true_and] at hr
 subst hr
 exact ⟨[],[t],sw,by simp [a2v,Ev.runF,hN],by simp,by simpa using hD,h⟩
theorem FpP.putN {t:Nat} {v:AV} {P:Unit->St->List Nat->Prop} (hN:¬ t < N) (h:P () (st.put t v) (t::sw)):FpP D N (a2v t v) st sw P:=by
 intro b st' hr
 rw [a51] at hr
 simp only [Option.some.injEq,Prod.mk.injEq,true_and] at hr
 subst hr
 exact ⟨[],[],t::sw,by simp [a2v,Ev.runF,hN],by simp,by simp,h⟩
theorem FpP.upd {t:Nat} {v:AV} {P:Unit->St->List Nat->Prop} (hD:D t) (hN:t < N) (h:P () (st.set t v) sw):FpP D N (b08 t v) st sw P:=by
 intro b st' hr
 rw [b3d] at hr
 simp only [Option.some.injEq,Prod.mk.injEq,true_and] at hr
 subst hr
 exact ⟨[],[t],sw,by simp [b08,Ev.runF,hN],by simp,by simpa using hD,h⟩
theorem FpP.kill {t o m:Nat} {q:List Nat} {P:Unit->St->List Nat->Prop} (hD:∀ u,u < N->D u) (h:P () (st.kill t q o m) sw):FpP D N (c4o t q o m) st sw P:=by
 intro a st' hr
 rw [b94] at hr
 simp only [Option.some.injEq,Prod.mk.injEq,true_and] at hr
 subst hr
 exact ⟨List.range N++[],List.range N++[],sw,rfl,fun u hu=>hD u (by simpa using hu),fun u hu=>hD u (by simpa using hu),h⟩
theorem FpP.guard {b:Bool} {P:Unit->St->List Nat->Prop} (h:b=true->P () st sw):FpP D N (a0k b) st sw P:=by
 cases b
 ·exact FpP.fail
 ·exact FpP.ret (h rfl)
theorem FpP.opt {o:Option α} {P:α->St->List Nat->Prop} (h:∀ a,o=some a->P a st sw):FpP D N (a3p o) st sw P:=by
 cases o
 ·exact FpP.fail
 ·exact FpP.ret (h _ rfl)
structure XO (D:Nat->Prop) (N:Nat) (st:St) (x:X):Prop where
 t:∀ t,x= .t t->D t/\t < N
 b:∀ u,a2m (rdv st x)=some u->D u/\u < N
theorem FpP.read {x:X} {P:(AV×Nat)->St->List Nat->Prop} (hx:XO D N st x) (h:P (rdv st x,rde st x) st sw):FpP D N (a13 x) st sw P:=by
 cases x with
 | t t=>exact FpP.get (hx.t t rfl).1 (hx.t t rfl).2 h
 | _=>exact FpP.ret h
theorem FpP.tmp {x:X} {P:Nat->St->List Nat->Prop} (h:∀ t,x= .t t->P t st sw):FpP D N (b2p x) st sw P:=by
 cases x with
 | t t=>exact FpP.ret (h t rfl)
 | _=>exact FpP.fail
theorem FpP.setD {d:Option Nat} {v:AV} {P:Unit->St->List Nat->Prop} (hd:∀ t,d=some t->D t/\t < N) (h:∀ t,d=some t->P () (st.put t v) sw):FpP D N (setD d v) st sw P:=by
 cases d with
 | none=>exact FpP.fail
 | some t=>exact FpP.put (hd t rfl).1 (hd t rfl).2 (h t rfl)
theorem FpP.thru {d:Option Nat} {v:AV} {M:Nat} {P:Unit->St->List Nat->Prop} (hM:N<=M) (hd:∀ t,d=some t->D t/\t < N) (h:∀ st' sw',P () st' sw'):FpP D N (a3t M d v) st sw P:=
 FpP.bindM (FpP.putN (Nat.not_lt.2 hM) (FpP.bindM (FpP.putN (Nat.not_lt.2 hM) (FpP.setD hd fun _ _=>h _ _))))
end
abbrev tt {α:Type}:α->St->List Nat->Prop:=fun _ _ _=>True
section
variable {D:Nat->Prop} {N:Nat} {st:St} {sw:List Nat} {d:Option Nat} {x y:X} {G:GG}
abbrev DD (D:Nat->Prop) (N:Nat) (d:Option Nat):Prop:=∀ t,d=some t->D t/\t < N
theorem e2b (hx:XO D N st x) (hd:DD D N d):FpP D N (mvE x d) st sw tt:=by
 refine FpP.bindM (FpP.read hx ?_)
 cases hv:rdv st x<;>simp only
 case own=>cases x<;>exact FpP.setD hd fun _ _=>trivial
 case var=>exact FpP.bindM (FpP.tmp fun t ht=>FpP.setD hd fun _ _=>trivial)
 case dead=>exact FpP.fail
 all_goals (split<;>first | exact FpP.setD hd fun _ _=>trivial | exact FpP.bindM (FpP.tmp fun t ht=>FpP.bindM (FpP.upd (hx.t t ht).1 (hx.t t ht).2 (FpP.setD hd fun _ _=>trivial))))
theorem d2f (hx:XO D N st x) (hd:DD D N d):FpP D N (d56 N x d) st sw tt:=by
 have tail:∀ v:AV,FpP D N (a7s N d x v) st sw tt:=by
  intro v
  unfold a7s
  cases x with
  | t t=>simp only; split; exact FpP.setD hd fun _ _=>trivial; exact FpP.bindM (FpP.put (hx.t t rfl).1 (hx.t t rfl).2 (FpP.thru (Nat.le_refl _) hd fun _ _=>trivial))
  | _=>simp only; split; exact FpP.setD hd fun _ _=>trivial; exact FpP.thru (Nat.le_refl _) hd fun _ _=>trivial
 refine FpP.bindM (FpP.read hx ?_)
 cases hv:rdv st x<;>simp only
 case dead=>exact FpP.fail
 case bor t q lo n e=>
  have hb:=hx.b t (by rw [hv]; rfl)
  refine FpP.bindM (FpP.get hb.1 hb.2 (FpP.bindM (FpP.guard fun _=>FpP.bindM (FpP.opt fun k hk=> ?_))))
  cases k<;>simp only<;>try exact FpP.fail
  refine FpP.bindM (FpP.guard fun _=> ?_)
  split
  ·exact FpP.bindM (FpP.put hb.1 hb.2 (FpP.thru (Nat.le_refl _) hd fun _ _=>trivial))
  ·exact FpP.bindM (FpP.upd hb.1 hb.2 (FpP.setD hd fun _ _=>trivial))
 all_goals exact tail _
theorem a83 {P:Value->St->List Nat->Prop} (hx:XO D N st x) (h:∀ v,P v st sw):FpP D N (b8a x) st sw P:=by
 refine FpP.bindM (FpP.read hx ?_)
 cases hv:rdv st x<;>simp only<;>first | exact FpP.ret (h _) | exact FpP.fail
theorem c3d {P:Int->St->List Nat->Prop} (hx:XO D N st x) (h:∀ v,P v st sw):FpP D N (c4n x) st sw P:=by
 refine FpP.bindM (a83 hx fun v=> ?_)
 cases v<;>simp only<;>first | exact FpP.ret (h _) | exact FpP.fail
theorem a6i {x:Option X} {z:Int} {P:Int->St->List Nat->Prop} (hx:∀ y,x=some y->XO D N st y) (h:∀ v,P v st sw):FpP D N (a2z x z) st sw P:=by
 cases x with
 | none=>exact FpP.ret (h _)
 | some x=>exact c3d (hx x rfl) h
theorem c61 {P:(Nat×List Nat×Nat×Nat)->St->List Nat->Prop} (hx:XO D N st x) (h:∀ t q lo n,D t->t < N->P (t,q,lo,n) st sw):FpP D N (a6g x) st sw P:=by
 refine FpP.bindM (FpP.read hx ?_)
 cases hv:rdv st x<;>simp only<;>try exact FpP.fail
 ·exact FpP.bindM (FpP.tmp fun t ht=>FpP.ret (h _ _ _ _ (hx.t t ht).1 (hx.t t ht).2))
 ·rename_i t q lo n e
  have hb:=hx.b t (by rw [hv]; rfl)
  exact FpP.bindM (FpP.get hb.1 hb.2 (FpP.bindM (FpP.guard fun _=>FpP.ret (h _ _ _ _ hb.1 hb.2))))
theorem e2d {P:(Nat×List Nat×Nat)->St->List Nat->Prop} (hx:XO D N st x) (h:∀ t q o,D t->t < N->P (t,q,o) st sw):FpP D N (c07 x) st sw P:=by
 refine FpP.bindM (FpP.read hx ?_)
 cases hv:rdv st x<;>simp only<;>try exact FpP.fail
 ·exact FpP.bindM (FpP.tmp fun t ht=>FpP.ret (h _ _ _ (hx.t t ht).1 (hx.t t ht).2))
 ·rename_i t q lo e
  have hb:=hx.b t (by rw [hv]; rfl)
  exact FpP.bindM (FpP.get hb.1 hb.2 (FpP.bindM (FpP.guard fun _=>FpP.ret (h _ _ _ hb.1 hb.2))))
theorem b31 {P:(Nat×List Nat×Nat×AV×Nat×List AV)->St->List Nat->Prop} (hx:XO D N st x) (h:∀ t q o v e ks,D t->t < N->P (t,q,o,v,e,ks) st sw):FpP D N (c5h x) st sw P:=
 FpP.bindM (e2d hx fun t q o hD hN=>FpP.bindM (FpP.get hD hN (FpP.bindM (FpP.opt fun ks _=>FpP.bindM (FpP.guard fun _=>FpP.ret (h _ _ _ _ _ _ hD hN))))))
theorem d0k {t:Nat} {q:List Nat} {P:AV->St->List Nat->Prop} (hD:D t) (hN:t < N) (h:∀ k,P k st sw):FpP D N (c7t t q) st sw P:=
 FpP.bindM (FpP.get hD hN (FpP.opt fun _ _=>h _))
theorem d38 {s:Option Nat} (hx:XO D N st x) (hd:DD D N d):FpP D N (b9j d s x) st sw tt:=by
 refine FpP.bindM (b31 hx fun t q o v e ks hD hN=> ?_)
 cases s with
 | none=>
  refine FpP.bindM (FpP.opt fun k _=> ?_)
  cases k<;>simp only [b0i]<;>first | exact FpP.setD hd fun _ _=>trivial | exact FpP.bindM (FpP.guard fun _=>FpP.setD hd fun _ _=>trivial)
 | some s=>
  refine FpP.bindM (FpP.guard fun _=> ?_)
  split
  ·exact FpP.setD hd fun _ _=>trivial
  ·exact FpP.bindM (FpP.upd hD hN (FpP.setD hd fun _ _=>trivial))
end
def BLe (N:Nat) (st st':St):Prop:=∀ t,t < N->a2m (st'.s t)=none\/a2m (st'.s t)=a2m (st.s t)
theorem BLe.refl {N:Nat} (st:St):BLe N st st:=fun t _=> .inr rfl
theorem BLe.trans {N:Nat} {a b c:St} (h:BLe N a b) (h2:BLe N b c):BLe N a c:=fun t ht=>by
 rcases h2 t ht with h3 | h3
 ·exact .inl h3
 ·rcases h t ht with h4 | h4
  ·exact .inl (h3.trans h4)
  ·exact .inr (h3.trans h4)
theorem BLe.put {N:Nat} {st:St} {t:Nat} {v:AV} (h:a2m v=none):BLe N st (st.put t v):=fun u _=>by
 simp only [St.put_s]; split
 ·exact .inl h
 ·exact .inr rfl
theorem BLe.putN {N:Nat} {st:St} {t:Nat} {v:AV} (h:¬ t < N):BLe N st (st.put t v):=fun u hu=>by
 simp only [St.put_s]; rw [if_neg (by omega)]; exact .inr rfl
theorem BLe.set {N:Nat} {st:St} {t:Nat} {v:AV} (h:a2m v=none):BLe N st (st.set t v):=fun u _=>by
 simp only [St.set_s]; split
 ·exact .inl h
 ·exact .inr rfl
theorem XO.le {D:Nat->Prop} {N:Nat} {st st':St} {x:X} (h:XO D N st x) (hl:BLe N st st'):XO D N st' x where
 t:=h.t
 b u hu:=by
  cases x with
  | t t=>
   have ht:=h.t t rfl
   simp only [rdv] at hu
   rcases hl t ht.2 with h1 | h1
   ·rw [h1] at hu; cases hu
   ·exact h.b u (by simp only [rdv]; rw [<-h1]; exact hu)
  | _=>cases hu
theorem a5v {v k:AV} {q:List Nat} {k':AV} (hk:a0f v q=some k) (h:a2m k'=none):a2m (a0r v q k')=none:=by
 cases q with
 | nil=>exact h
 | cons i q=>
  cases v<;>simp only [a0f,a0q,reduceCtorEq] at hk
  ·simp only [a0r,a0q]; split<;>rfl
  ·simp only [a0r,a0q]; split<;>rfl
section
variable {D:Nat->Prop} {N:Nat} {st:St} {sw:List Nat} {d:Option Nat} {x y:X} {G:GG}
theorem c1q {P:Unit->St->List Nat->Prop} (hx:XO D N st x) (h:∀ st' sw',BLe N st st'->(∀ t∈sw,t∈sw')->N∈sw'->(∀ t,N < t->st'.s t=st.s t)->P () st' sw'):FpP D N (a3w x N) st sw P:=by
 have hN:¬ N < N:=Nat.lt_irrefl _
 have one:∀ {v:AV},a2m (AV.dead)=none->FpP D N (a2v N v) st sw P:=fun _=>FpP.putN hN (h _ _ (BLe.putN hN) (fun t ht=>by simp [ht]) (by simp) (fun t ht=>by simp [Nat.ne_of_gt ht]))
 have two:∀ {v:AV} (t:Nat),x= .t t->FpP D N (do a2v t .dead; a2v N v) st sw P:=fun t ht=>FpP.bindM (FpP.put (hx.t t ht).1 (hx.t t ht).2 (FpP.putN hN (h _ _ ((BLe.put rfl).trans (BLe.putN hN)) (fun t ht=>by simp [ht]) (by simp) (fun u hu=>by
  have:=(hx.t t ht).2
  simp [Nat.ne_of_gt hu,show u≠t by omega]))))
 refine FpP.bindM (FpP.read hx ?_)
 cases hv:rdv st x<;>simp only
 case dead=>exact FpP.fail
 case tup=>exact FpP.fail
 case ref=>exact FpP.fail
 case bor t q lo n e=>
  have hb:=hx.b t (by rw [hv]; rfl)
  refine FpP.bindM (FpP.get hb.1 hb.2 (FpP.bindM (FpP.guard fun _=>FpP.bindM (FpP.opt fun k hk=> ?_))))
  cases k<;>simp only<;>try exact FpP.fail
  refine FpP.bindM (FpP.guard fun _=>FpP.bindM (FpP.upd hb.1 hb.2 (FpP.putN hN (h _ _ ((BLe.set (a5v hk rfl)).trans (BLe.putN hN)) (fun t ht=>by simp [ht]) (by simp) (fun u hu=>by
   have:=hb.2
   simp [Nat.ne_of_gt hu,show u≠t by omega])))))
 case agg=>exact FpP.bindM (FpP.tmp fun t ht=>two t ht)
 case own=>
  cases x with
  | t t=>exact two t rfl
  | _=>exact one rfl
 case var=>exact FpP.bindM (FpP.tmp fun t ht=>two t ht)
 case ifc=>exact FpP.bindM (FpP.tmp fun t ht=>two t ht)
 case mp=>exact FpP.bindM (FpP.tmp fun t ht=>two t ht)
 case fn=>exact FpP.bindM (FpP.guard fun _=>one rfl)
 all_goals exact FpP.bindM (FpP.guard fun _=>one rfl)
theorem b9c {j:Nat} {P:List AV->St->List Nat->Prop} (hN:¬ j < N) (hs:j∈sw) (h:∀ ks,P ks st sw):FpP D N (c0j j) st sw P:=by
 refine FpP.bindM (FpP.getv hN hs ?_)
 cases st.s j<;>simp only<;>first | exact FpP.ret (h _) | exact FpP.fail
theorem e15 {T:TypeId} {sz:Nat} (hx:XO D N st x) (hd:DD D N d):FpP D N (a05 G N d (.box T sz x)) st sw tt:=by
 have hN:¬ N < N:=Nat.lt_irrefl _
 exact FpP.bindM (c1q hx fun st' sw' _ _ hs _=>FpP.bindM (b9c hN hs fun ks=>FpP.bindM (FpP.guard fun _=>FpP.thru (Nat.le_refl _) hd fun _ _=>trivial)))
theorem b69:∀ (l:List (Nat×Nat×X)) {st:St} {sw:List Nat} {P:Unit->St->List Nat->Prop},(∀ p∈l,XO D N st p.2.2)->(N+1)∈sw->(∀ st' sw',(N+1)∈sw'->P () st' sw')->FpP D N (a6t N l) st sw P
 | [],st,sw,P,_,hs,h=>FpP.ret (h _ _ hs)
 | (off,sz,x)::rest,st,sw,P,hx,hs,h=>by
  have hN:¬ N < N:=Nat.lt_irrefl _
  have hN1:¬ N+1 < N:=by omega
  refine FpP.bindM (c1q (hx (off,sz,x) (by simp)) fun st1 sw1 hb hsw hNs _=>FpP.bindM (b9c hN hNs fun ks=>FpP.bindM (b9c hN1 (hsw _ hs) fun zs=>FpP.bindM (FpP.guard fun _=>FpP.bindM (FpP.putN hN (FpP.bindM (FpP.putN hN1 ?_)))))))
  exact b69 rest (fun p hp=>(hx p (by simp [hp])).le (hb.trans ((BLe.put rfl).trans (BLe.putN hN1)))) (by simp) h
theorem d0c {T:TypeId} {zs:List AV} {parts:List (Nat×Nat×Nat×X)} (hx:∀ p∈parts,XO D N st p.2.2.2) (hd:DD D N d):FpP D N (a05 G N d (.build T zs parts)) st sw tt:=by
 have hN1:¬ N+1 < N:=by omega
 refine FpP.bindM (FpP.putN hN1 (FpP.bindM (b69 _ (fun p hp=> ?_) (by simp) fun st' sw' hs=>FpP.bindM (b9c hN1 hs fun ks=>FpP.bindM (FpP.putN hN1 (FpP.setD hd fun _ _=>trivial))))))
 obtain ⟨r,hr,rfl⟩:=List.mem_map.1 hp
 exact (hx r hr).le (BLe.putN hN1)
theorem c62 {T e:TypeId} {sz len:Nat} {zs:List AV} {parts:List (Nat×X)} (hx:∀ p∈parts,XO D N st p.2) (hd:DD D N d):FpP D N (a05 G N d (.bslice T e sz len zs parts)) st sw tt:=by
 have hN1:¬ N+1 < N:=by omega
 refine FpP.bindM (FpP.putN hN1 (FpP.bindM (b69 _ (fun p hp=> ?_) (by simp) fun st' sw' hs=>FpP.bindM (b9c hN1 hs fun ks=>FpP.thru (by omega) hd fun _ _=>trivial))))
 obtain ⟨r,hr,rfl⟩:=List.mem_map.1 hp
 exact (hx r hr).le (BLe.putN hN1)
theorem d0n {T:TypeId} {s:Nat} (hx:XO D N st x) (hy:XO D N st y) (hd:d=none) (hk:∀ r,giv st N y (rdv st y)=some r->a0m r.2=true\/∀ t,t < N->D t):FpP D N (a05 G N d (.store T s x y)) st sw tt:=by
 have hN:¬ N < N:=Nat.lt_irrefl _
 refine FpP.bindM (FpP.guard fun _=> ?_)
 have hg:FpP D N (a3w y N) st sw (fun _ st' sw'=>(BLe N st st'/\N∈sw')/\∃ r,giv st N y (rdv st y)=some r/\st'.s N= .agg r.2):=by
  intro a st' hr
  obtain ⟨rd,wr,sw',h1,h2,h3,h4⟩:=c1q (P:=fun _ st' sw'=>BLe N st st'/\N∈sw') (sw:=sw) hy (fun st' sw' h1 _ h2 _=>⟨h1,h2⟩) a st' hr
  refine ⟨rd,wr,sw',h1,h2,h3,h4,?_⟩
  rw [b0y] at hr
  cases hgv:giv st N y (rdv st y) with
  | none=>rw [hgv] at hr; cases hr
  | some r=>
   rw [hgv] at hr
   simp only [Option.map,Option.some.injEq,Prod.mk.injEq,true_and] at hr
   exact ⟨r,rfl,by rw [<-hr]; simp⟩
 refine FpP.bindM (FpP.mono hg fun a st' sw' ⟨⟨hb,hs⟩,r,hr,hsN⟩=> ?_)
 have hno:=hk r hr
 refine FpP.bindM (FpP.mono (b31 (P:=fun p st2 sw2=>(D p.1/\p.1 < N)/\st2=st'/\sw2=sw') (hx.le hb) fun t q o v e ks hD htN=>⟨⟨hD,htN⟩,rfl,rfl⟩) ?_)
 rintro ⟨t,q,o,v,e,ks⟩ st2 sw2 ⟨⟨hD,htN⟩,rfl,rfl⟩
 refine FpP.bindM (FpP.mono (P:=fun ks2 st3 sw3=>ks2=r.2/\st3=st2/\sw3=sw2) (FpP.bindM (FpP.getv hN hs (by rw [hsN]; exact FpP.ret ⟨rfl,rfl,rfl⟩))) ?_)
 rintro cs st3 sw3 ⟨rfl,rfl,rfl⟩
 refine FpP.bindM (FpP.guard fun _=>FpP.bindM (FpP.putN hN ?_))
 rcases hno with hno | hall
 ·rw [if_pos hno]
  exact FpP.upd hD htN trivial
 ·split
  ·exact FpP.upd hD htN trivial
  ·exact FpP.bindM (FpP.kill hall (FpP.upd hD htN trivial))
theorem d0j (hx:XO D N st x) (hd:DD D N d):FpP D N (a05 G N d (.nilck x)) st sw tt:=by
 refine FpP.bindM (FpP.read hx ?_)
 cases hv:rdv st x<;>simp only<;>first | exact FpP.setD hd fun _ _=>trivial | exact FpP.bindM (b31 hx fun _ _ _ _ _ _ _ _=>FpP.setD hd fun _ _=>trivial)
theorem d0e {T:TypeId} {off f:Nat} (hx:XO D N st x) (hd:DD D N d):FpP D N (a05 G N d (.faddr T off x f)) st sw tt:=by
 refine FpP.bindM (FpP.read hx ?_)
 cases hv:rdv st x<;>simp only<;>first | exact FpP.setD hd fun _ _=>trivial | exact FpP.bindM (b31 hx fun _ _ _ _ _ _ _ _=>FpP.setD hd fun _ _=>trivial)
theorem d0a {T:TypeId} {off f:Nat} (hx:XO D N st x) (hd:DD D N d):FpP D N (a05 G N d (.aaddr T off x f)) st sw tt:=by
 refine FpP.bindM (FpP.read hx ?_)
 cases hv:rdv st x<;>simp only<;>first | exact FpP.setD hd fun _ _=>trivial | exact FpP.bindM (b31 hx fun _ _ _ _ _ _ _ _=>FpP.setD hd fun _ _=>trivial)
theorem c63 {T:TypeId} {s:Option Nat} (hx:XO D N st x) (hd:DD D N d):FpP D N (a05 G N d (.load T s x)) st sw tt:=by
 refine FpP.bindM (FpP.read hx ?_)
 simp only
 split
 ·exact FpP.bindM (FpP.opt fun _ _=>FpP.setD hd fun _ _=>trivial)
 ·exact FpP.bindM (FpP.opt fun _ _=>FpP.bindM (FpP.guard fun _=>FpP.setD hd fun _ _=>trivial))
 ·exact FpP.bindM (FpP.guard fun _=>FpP.setD hd fun _ _=>trivial)
 ·exact d38 hx hd
theorem d0g {T:TypeId} {sz:Nat} {i:X} (hx:XO D N st x) (hi:XO D N st i) (hd:DD D N d):FpP D N (a05 G N d (.iaddr T sz x i)) st sw tt:=by
 refine FpP.bindM (c3d hi fun n=>FpP.bindM (FpP.guard fun _=>FpP.bindM (FpP.read hx ?_)))
 have rest:FpP D N (do
   let (t,q,lo,m)<-a6g x
   a0k (decide (n < (m:Int)))
   let v<-b1l t
   let k<-a3p (a0f v.1 q)
   match k with
   | .own sz' n0 _=>do
    a0k (sz'==sz&&decide (lo+m<=n0))
    setD d (.ref t q ((lo+n.toNat)*sz) v.2)
   | _=> .fail) st sw tt:=by
  refine FpP.bindM (c61 hx fun t q lo m hD hN=>FpP.bindM (FpP.guard fun _=>FpP.bindM (FpP.get hD hN (FpP.bindM (FpP.opt fun k _=> ?_)))))
  cases k<;>simp only<;>first | exact FpP.fail | exact FpP.bindM (FpP.guard fun _=>FpP.setD hd fun _ _=>trivial)
 cases hv:rdv st x<;>simp only<;>first | exact FpP.bindM (FpP.guard fun _=>FpP.setD hd fun _ _=>trivial) | exact rest
theorem d0h {T:TypeId} {b:Bool} (hx:XO D N st x) (hd:DD D N d):FpP D N (a05 G N d (.len T b x)) st sw tt:=by
 cases b with
 | true=>
  refine FpP.bindM (a83 hx fun v=> ?_)
  cases v<;>simp only<;>first | exact FpP.fail | exact FpP.setD hd fun _ _=>trivial
 | false=>
  refine FpP.bindM (FpP.read hx ?_)
  have rest:FpP D N (do
   let (t,q,lo,n)<-a6g x
   let k<-c7t t q
   match k with
   | .own _ n0 _=>do
    a0k (decide (lo+n<=n0))
    setD d (.lit (.int .i64 n))
   | _=> .fail) st sw tt:=by
   refine FpP.bindM (c61 hx fun t q lo m hD hN=>FpP.bindM (d0k hD hN fun k=> ?_))
   cases k<;>simp only<;>first | exact FpP.fail | exact FpP.bindM (FpP.guard fun _=>FpP.setD hd fun _ _=>trivial)
  cases hv:rdv st x<;>simp only<;>first | exact FpP.setD hd fun _ _=>trivial | exact rest
theorem e14 {b:BinOp} {T kd:Nat} {yT:TypeId} (hx:XO D N st x) (hy:XO D N st y) (hd:DD D N d):FpP D N (a05 G N d (.bin b T kd x y yT)) st sw tt:=
 FpP.bindM (FpP.read hx (FpP.bindM (FpP.read hy (FpP.bindM (FpP.opt fun _ _=>FpP.setD hd fun _ _=>trivial)))))
theorem f4b {u:UnOp} {T:TypeId} (hx:XO D N st x) (hd:DD D N d):FpP D N (a05 G N d (.un u T x)) st sw tt:=
 FpP.bindM (a83 hx fun _=>FpP.bindM (FpP.opt fun _ _=>FpP.setD hd fun _ _=>trivial))
theorem d4b {c:X} (hc:XO D N st c) (hx:XO D N st x) (hy:XO D N st y) (hd:DD D N d):FpP D N (a05 G N d (.pick c x y)) st sw tt:=
 FpP.bindM (a83 hc fun _=>FpP.bindM (FpP.read hx (FpP.bindM (FpP.read hy (FpP.bindM (FpP.opt fun _ _=>FpP.setD hd fun _ _=>trivial))))))
theorem d0b {T:TypeId} {zs:List AV} (hd:DD D N d):FpP D N (a05 G N d (.alloc T zs)) st sw tt:=FpP.thru (Nat.le_refl _) hd fun _ _=>trivial
theorem d0d {s t:TypeId} {k:IntKind} (hx:XO D N st x) (hd:DD D N d):FpP D N (a05 G N d (.conv s t (.int k) x)) st sw tt:=by
 refine FpP.bindM (a83 hx fun v=> ?_)
 cases v<;>simp only<;>first | exact FpP.fail | exact FpP.setD hd fun _ _=>trivial
theorem e19 {T:TypeId} (hx:XO D N st x) (hd:DD D N d):FpP D N (a05 G N d (.mki T x)) st sw tt:=by
 refine FpP.bindM (FpP.read hx ?_)
 cases hv:rdv st x<;>simp only<;>first | exact FpP.fail | exact FpP.setD hd fun _ _=>trivial | exact FpP.bindM (FpP.tmp fun t ht=>FpP.bindM (FpP.upd (hx.t t ht).1 (hx.t t ht).2 (FpP.setD hd fun _ _=>trivial)))
theorem e2a {T e:TypeId} {sz by_:Nat} {zs:List AV} (hx:XO D N st x) (hy:XO D N st y) (hd:DD D N d):FpP D N (a05 G N d (.mks T e sz by_ zs x y)) st sw tt:=
 FpP.bindM (c3d hx fun _=>FpP.bindM (c3d hy fun _=>FpP.bindM (FpP.guard fun _=>FpP.thru (Nat.le_refl _) hd fun _ _=>trivial)))
theorem e17 {i:Nat} (hx:XO D N st x) (hd:DD D N d):FpP D N (a05 G N d (.ext x i)) st sw tt:=by
 refine FpP.bindM (FpP.read hx ?_)
 cases hv:rdv st x<;>simp only<;>try exact FpP.fail
 refine FpP.bindM (FpP.opt fun k _=> ?_)
 split
 ·exact FpP.setD hd fun _ _=>trivial
 ·exact FpP.bindM (FpP.tmp fun t ht=>FpP.bindM (FpP.put (hx.t t ht).1 (hx.t t ht).2 (FpP.thru (Nat.le_refl _) hd fun _ _=>trivial)))
theorem e18 {T off f:Nat} (hx:XO D N st x) (hd:DD D N d):FpP D N (a05 G N d (.fld T off x f)) st sw tt:=by
 refine FpP.bindM (FpP.read hx ?_)
 cases hv:rdv st x<;>simp only<;>try exact FpP.fail
 exact FpP.bindM (FpP.opt fun k _=>FpP.bindM (FpP.guard fun _=>FpP.setD hd fun _ _=>trivial))
theorem d2g {P:Int->St->List Nat->Prop} (hx:XO D N st x) (h:∀ v,P v st sw):FpP D N (d4h x) st sw P:=by
 refine FpP.bindM (a83 hx fun v=> ?_)
 split
 ·exact FpP.ret (h _)
 ·exact FpP.fail
theorem c64 {P:(Nat×List Nat×AV×List Int×List AV)->St->List Nat->Prop} (hx:XO D N st x) (h:∀ t q v keys vals,D t->t < N->P (t,q,v,keys,vals) st sw):FpP D N (d4w x) st sw P:=by
 refine FpP.bindM (FpP.read hx ?_)
 cases hv:rdv st x<;>simp only<;>try exact FpP.fail
 rename_i t q lo n e
 have hb:=hx.b t (by rw [hv]; rfl)
 refine FpP.bindM (FpP.get hb.1 hb.2 (FpP.bindM (FpP.guard fun _=>FpP.bindM (FpP.opt fun k _=> ?_))))
 cases k<;>simp only<;>first | exact FpP.fail | exact FpP.ret (h _ _ _ _ _ hb.1 hb.2)
theorem d0i {T:TypeId} (hd:DD D N d):FpP D N (a05 G N d (.mkmap T)) st sw tt:=FpP.thru (Nat.le_refl _) hd fun _ _=>trivial
theorem d39 {T e:TypeId} {zs:List AV} (hx:XO D N st x) (hy:XO D N st y) (hd:DD D N d):FpP D N (a05 G N d (.mget T e zs x y)) st sw tt:=by
 refine FpP.bindM (c64 hx fun t q v keys vals _ _=>FpP.bindM (d2g hy fun n=> ?_))
 split
 ·exact FpP.bindM (FpP.guard fun _=>FpP.setD hd fun _ _=>trivial)
 ·exact FpP.bindM (FpP.guard fun _=>FpP.setD hd fun _ _=>trivial)
theorem d4a {T e:TypeId} {z:X} (hx:XO D N st x) (hy:XO D N st y) (hz:XO D N st z):FpP D N (a05 G N d (.mset T e x y z)) st sw tt:=
 FpP.bindM (FpP.guard fun _=>FpP.bindM (c64 hx fun t q v keys vals hD hN=>FpP.bindM (d2g hy fun n=>FpP.bindM (FpP.read hz (FpP.bindM (FpP.guard fun _=>FpP.upd hD hN trivial))))))
theorem e2f {xT T:TypeId} {zs:List AV} (hx:XO D N st x) (hd:DD D N d):FpP D N (a05 G N d (.tas x xT T zs)) st sw tt:=by
 refine FpP.bindM (FpP.read hx ?_)
 simp only
 split
 ·exact FpP.setD hd fun _ _=>trivial
 ·exact FpP.setD hd fun _ _=>trivial
 ·exact FpP.bindM (FpP.guard fun _=>FpP.setD hd fun _ _=>trivial)
 ·exact FpP.fail
theorem f4a {mx:Bool} {ts:List TypeId} (hx:XO D N st x) (hy:XO D N st y) (hd:DD D N d):FpP D N (a05 G N d (.mm mx ts [x,y])) st sw tt:=by
 refine FpP.bindM (a83 hx fun u=>FpP.bindM (a83 hy fun v=> ?_))
 split
 ·exact FpP.bindM (FpP.guard fun _=>FpP.setD hd fun _ _=>trivial)
 ·exact FpP.fail
theorem e16 {b:BinOp} {T tp te:TypeId} {yT:TypeId} (hx:XO D N st x) (hy:XO D N st y) (hd:DD D N d):FpP D N (a05 G N d (.eqs b T tp te x y yT)) st sw tt:=by
 refine FpP.bindM (a83 hx fun u=>FpP.bindM (a83 hy fun v=> ?_))
 split
 ·refine FpP.bindM (FpP.guard fun _=> ?_)
  split<;>first | exact FpP.setD hd fun _ _=>trivial | exact FpP.fail
 ·exact FpP.fail
end
open Classical
section
variable {D:Nat->Prop} {N:Nat} {st:St} {sw:List Nat} {d:Option Nat} {x y:X} {G:GG}
theorem d0m {T:TypeId} {sz:Nat} {lo hi:Option X} (hx:XO D N st x) (hlo:∀ y,lo=some y->XO D N st y) (hhi:∀ y,hi=some y->XO D N st y) (hd:DD D N d):FpP D N (a05 G N d (.slice T sz x lo hi none)) st sw tt:=by
 refine FpP.bindM (FpP.read hx ?_)
 have rest:FpP D N (do
   a0k (decide (0 < sz))
   let (t,q,lo0,n)<-a6g x
   let v<-b1l t
   let k<-a3p (a0f v.1 q)
   match k with
   | .own sz' n0 _=>do
    let l<-a2z lo 0
    let h<-a2z hi n
    a0k (decide (0<=l)&&decide (l<=h)&&decide (h<=(n:Int))&&decide (lo0+n<=n0)&&sz'==sz&&(lo0==0||l==0||decide (l < h)))
    match (none:Option X) with
    | none=>setD d (.bor t q (lo0+l.toNat) (h - l).toNat v.2)
    | some m=>do
     let m<-c4n m
     a0k (l==0&&h==0&&m==0&&hi.isSome)
     a3t N d (.own sz 0 [])
   | _=> .fail) st sw tt:=by
  refine FpP.bindM (FpP.guard fun _=>FpP.bindM (c61 hx fun t q lo0 n hD hN=>FpP.bindM (FpP.get hD hN (FpP.bindM (FpP.opt fun k _=> ?_)))))
  cases k<;>simp only<;>try exact FpP.fail
  exact FpP.bindM (a6i hlo fun _=>FpP.bindM (a6i hhi fun _=>FpP.bindM (FpP.guard fun _=>FpP.setD hd fun _ _=>trivial)))
 cases hv:rdv st x
 case lit v=>
  cases v<;>simp only<;>try exact rest
  exact FpP.bindM (a6i hlo fun _=>FpP.bindM (a6i hhi fun _=>FpP.bindM (FpP.guard fun _=>FpP.setD hd fun _ _=>trivial)))
 case sl=>exact FpP.bindM (FpP.guard fun _=>FpP.bindM (a6i hlo fun _=>FpP.bindM (a6i hhi fun _=>FpP.bindM (FpP.guard fun _=>FpP.setD hd fun _ _=>trivial))))
 all_goals exact rest
theorem d4c {P:Unit->St->List Nat->Prop} (hx:XO D N st x) (h:∀ st' sw',BLe N st st'->N∈sw'->P () st' sw'):FpP D N (c2r x N) st sw P:=by
 have hN:¬ N < N:=Nat.lt_irrefl _
 refine FpP.bindM (FpP.read hx ?_)
 cases hv:rdv st x<;>simp only<;>try exact FpP.fail
 ·cases x with
  | t t=>exact FpP.bindM (FpP.put (hx.t t rfl).1 (hx.t t rfl).2 (FpP.putN hN (h _ _ ((BLe.put rfl).trans (BLe.putN hN)) (by simp))))
  | _=>exact FpP.putN hN (h _ _ (BLe.putN hN) (by simp))
 ·rename_i t q lo n e
  have hb:=hx.b t (by rw [hv]; rfl)
  refine FpP.bindM (FpP.get hb.1 hb.2 (FpP.bindM (FpP.guard fun _=>FpP.bindM (FpP.opt fun k hk=> ?_))))
  cases k<;>simp only<;>try exact FpP.fail
  exact FpP.bindM (FpP.guard fun _=>FpP.bindM (FpP.upd hb.1 hb.2 (FpP.putN hN (h _ _ ((BLe.set (a5v hk rfl)).trans (BLe.putN hN)) (by simp)))))
theorem e2e {P:Unit->St->List Nat->Prop} (hx:XO D N st x) (h:∀ st' sw',(∀ t∈sw,t∈sw')->N+1∈sw'->P () st' sw'):FpP D N (d9a x N) st sw P:=by
 have hN:¬ N+1 < N:=by omega
 refine FpP.bindM (FpP.read hx ?_)
 cases hv:rdv st x<;>simp only<;>try exact FpP.fail
 ·exact FpP.putN hN (h _ _ (fun t ht=>by simp [ht]) (by simp))
 ·cases x with
  | t t=>exact FpP.bindM (FpP.put (hx.t t rfl).1 (hx.t t rfl).2 (FpP.putN hN (h _ _ (fun t ht=>by simp [ht]) (by simp))))
  | _=>exact FpP.putN hN (h _ _ (fun t ht=>by simp [ht]) (by simp))
 ·rename_i t q lo n e
  have hb:=hx.b t (by rw [hv]; rfl)
  refine FpP.bindM (FpP.get hb.1 hb.2 (FpP.bindM (FpP.guard fun _=>FpP.bindM (FpP.opt fun k hk=> ?_))))
  cases k<;>simp only<;>try exact FpP.fail
  exact FpP.bindM (FpP.guard fun _=>FpP.bindM (FpP.upd hb.1 hb.2 (FpP.putN hN (h _ _ (fun t ht=>by simp [ht]) (by simp)))))
theorem e13 {T e:TypeId} {sz by_:Nat} (hx:XO D N st x) (hy:XO D N st y) (hd:DD D N d):FpP D N (a05 G N d (.app T e sz by_ x y)) st sw tt:=by
 have hN:¬ N < N:=Nat.lt_irrefl _
 have hN1:¬ N+1 < N:=by omega
 refine FpP.bindM (d4c hx fun st1 sw1 hb hs=>FpP.bindM (e2e (hy.le hb) fun st2 sw2 hsw hs1=>FpP.bindM (FpP.getv hN (hsw _ hs) (FpP.bindM (FpP.getv hN1 hs1 ?_)))))
 split
 ·exact FpP.bindM (FpP.guard fun _=>FpP.bindM (FpP.putN hN1 (FpP.thru (Nat.le_refl _) hd fun _ _=>trivial)))
 ·exact FpP.bindM (FpP.guard fun _=>FpP.bindM (FpP.putN hN1 (FpP.thru (Nat.le_refl _) hd fun _ _=>trivial)))
 ·exact FpP.fail
theorem d0f {j:Nat} (hj:N<=j) {P:Unit->St->List Nat->Prop} (hx:XO D N st x) (h:∀ st' sw',BLe N st st'->(∀ t∈sw,t∈sw')->j∈sw'->P () st' sw'):FpP D N (c1t N x j) st sw P:=by
 have hN:¬ j < N:=Nat.not_lt.2 hj
 have one:∀ {v:AV},FpP D N (a2v j v) st sw P:=FpP.putN hN (h _ _ (BLe.putN hN) (fun t ht=>by simp [ht]) (by simp))
 have tail:∀ v:AV,FpP D N (a3k x j v) st sw P:=by
  intro v
  unfold a3k
  cases x with
  | t t=>
   simp only
   split
   ·exact one
   ·exact FpP.bindM (FpP.put (hx.t t rfl).1 (hx.t t rfl).2 (FpP.putN hN (h _ _ ((BLe.put rfl).trans (BLe.putN hN)) (fun t ht=>by simp [ht]) (by simp))))
  | _=>exact one
 refine FpP.bindM (FpP.read hx ?_)
 cases hv:rdv st x<;>simp only
 case dead=>exact FpP.fail
 case bor t q lo n e=>
  have hb:=hx.b t (by rw [hv]; rfl)
  refine FpP.bindM (FpP.get hb.1 hb.2 (FpP.bindM (FpP.guard fun _=>FpP.bindM (FpP.opt fun k hk=> ?_))))
  cases k<;>simp only<;>try exact FpP.fail
  exact FpP.bindM (FpP.guard fun _=>FpP.bindM (FpP.upd hb.1 hb.2 (FpP.putN hN (h _ _ ((BLe.set (a5v hk rfl)).trans (BLe.putN hN)) (fun t ht=>by simp [ht]) (by simp)))))
 all_goals exact FpP.bindM (FpP.guard fun _=>tail _)
theorem c9m {v:AV} (h:a0n v=false):a2m (frz v)=none:=by
 cases v<;>first | rfl | simp [a0n] at h
theorem d0l {j:Nat} (hj:N<=j) {P:Unit->St->List Nat->Prop} (hx:XO D N st x) (h:∀ st' sw',BLe N st st'->(∀ t∈sw,t∈sw')->j∈sw'->P () st' sw'):FpP D N (b7v N x j) st sw P:=by
 have hN:¬ j < N:=Nat.not_lt.2 hj
 have one:∀ {v:AV},FpP D N (a2v j v) st sw P:=FpP.putN hN (h _ _ (BLe.putN hN) (fun t ht=>by simp [ht]) (by simp))
 have tail:∀ v:AV,FpP D N (a24 x j v) st sw P:=by
  intro v
  unfold a24
  cases x with
  | t t=>
   simp only
   split
   ·exact one
   ·rename_i hno
    exact FpP.bindM (FpP.upd (hx.t t rfl).1 (hx.t t rfl).2 (FpP.putN hN (h _ _ ((BLe.set (c9m (by simpa using hno))).trans (BLe.putN hN)) (fun t ht=>by simp [ht]) (by simp))))
  | _=>exact one
 refine FpP.bindM (FpP.read hx ?_)
 cases hv:rdv st x<;>simp only
 case dead=>exact FpP.fail
 case bor t q lo n e=>
  have hb:=hx.b t (by rw [hv]; rfl)
  refine FpP.bindM (FpP.get hb.1 hb.2 (FpP.bindM (FpP.guard fun _=>FpP.bindM (FpP.opt fun k hk=> ?_))))
  cases k<;>simp only<;>try exact FpP.fail
  exact FpP.bindM (FpP.guard fun _=>FpP.bindM (FpP.upd hb.1 hb.2 (FpP.putN hN (h _ _ ((BLe.set (a5v hk rfl)).trans (BLe.putN hN)) (fun t ht=>by simp [ht]) (by simp)))))
 all_goals exact FpP.bindM (FpP.guard fun _=>tail _)
theorem c3c:∀ (xs:List (Bool×X)) (j:Nat) {st:St} {sw:List Nat} {P:Unit->St->List Nat->Prop},N<=j->(∀ p∈xs,XO D N st p.2)->(∀ st' sw',BLe N st st'->(∀ t∈sw,t∈sw')->(∀ i x,xs[i]? =some (true,x)->j+i∈sw')->P () st' sw')->FpP D N (a41 N j xs) st sw P
 | [],j,st,sw,P,hj,hx,h=>FpP.ret (h _ _ (BLe.refl _) (fun _ h=>h) (fun i x hi=>by simp at hi))
 | (b,x)::xs,j,st,sw,P,hj,hx,h=>by
  refine FpP.bindM ?_
  have go:∀ st1 sw1,BLe N st st1->(∀ t∈sw,t∈sw1)->(b=true->j∈sw1)->FpP D N (a41 N (j+1) xs) st1 sw1 P:=fun st1 sw1 hb hs hj1=>
   c3c xs (j+1) (by omega) (fun p hp=>(hx p (by simp [hp])).le hb) fun st2 sw2 hb2 hs2 hi=>h _ _ (hb.trans hb2) (fun t ht=>hs2 t (hs t ht)) fun i y hy=>by
    cases i with
    | zero=>
     simp only [List.getElem?_cons_zero,Option.some.injEq,Prod.mk.injEq] at hy
     exact hs2 _ (hj1 hy.1)
    | succ i=>rw [show j+(i+1)=j+1+i by omega]; exact hi i y (by simpa using hy)
  cases b with
  | true=>exact d0f hj (hx (true,x) (by simp)) fun st1 sw1 hb hs hj1=>go st1 sw1 hb hs fun _=>hj1
  | false=>exact FpP.ret (go st sw (BLe.refl _) (fun _ h=>h) fun hc=>by cases hc)
theorem b9d:∀ (xs:List (Bool×X)) (j:Nat) {st:St} {sw:List Nat} {P:Unit->St->List Nat->Prop},N<=j->(∀ p∈xs,XO D N st p.2)->(∀ st' sw',(∀ t∈sw,t∈sw')->(∀ i x,xs[i]? =some (false,x)->j+i∈sw')->P () st' sw')->FpP D N (a3e N j xs) st sw P
 | [],j,st,sw,P,hj,hx,h=>FpP.ret (h _ _ (fun _ h=>h) (fun i x hi=>by simp at hi))
 | (b,x)::xs,j,st,sw,P,hj,hx,h=>by
  refine FpP.bindM ?_
  have go:∀ st1 sw1,BLe N st st1->(∀ t∈sw,t∈sw1)->(b=false->j∈sw1)->FpP D N (a3e N (j+1) xs) st1 sw1 P:=fun st1 sw1 hb hs hj1=>
   b9d xs (j+1) (by omega) (fun p hp=>(hx p (by simp [hp])).le hb) fun st2 sw2 hs2 hi=>h _ _ (fun t ht=>hs2 t (hs t ht)) fun i y hy=>by
    cases i with
    | zero=>
     simp only [List.getElem?_cons_zero,Option.some.injEq,Prod.mk.injEq] at hy
     exact hs2 _ (hj1 hy.1)
    | succ i=>rw [show j+(i+1)=j+1+i by omega]; exact hi i y (by simpa using hy)
  cases b with
  | false=>exact d0l hj (hx (false,x) (by simp)) fun st1 sw1 hb hs hj1=>go st1 sw1 hb hs fun _=>hj1
  | true=>exact FpP.ret (go st sw (BLe.refl _) (fun _ h=>h) fun hc=>by cases hc)
end
def b1t:IOp->Option (List X)
 | .mv x=>some [x]
 | .asg x=>some [x]
 | .mva x=>some [x]
 | .mvf x=>some [x]
 | .pick c x y=>some [c,x,y]
 | .alloc _ _=>some []
 | .box _ _ x=>some [x]
 | .build _ _ parts=>some (parts.map fun p=>p.2.2.2)
 | .bslice _ _ _ _ _ parts=>some (parts.map fun p=>p.2)
 | .load _ _ x=>some [x]
 | .store _ _ x y=>some [x,y]
 | .nilck x=>some [x]
 | .bin _ _ _ x y _=>some [x,y]
 | .un _ _ x=>some [x]
 | .eqs _ _ _ _ x y _=>some [x,y]
 | .conv _ _ (.int _) x=>some [x]
 | .mki _ x=>some [x]
 | .mks _ _ _ _ _ x y=>some [x,y]
 | .slice _ _ x lo hi none=>some (x::(lo.toList++hi.toList))
 | .faddr _ _ x _=>some [x]
 | .aaddr _ _ x _=>some [x]
 | .iaddr _ _ x i=>some [x,i]
 | .ext x _=>some [x]
 | .fld _ _ x _=>some [x]
 | .tas x _ _ _=>some [x]
 | .len _ _ x=>some [x]
 | .app _ _ _ _ x y=>some [x,y]
 | .mm _ _ [x,y]=>some [x,y]
 | .mkmap _=>some []
 | .mget _ _ _ x k=>some [x,k]
 | .mset _ _ x k v=>some [x,k,v]
 | _=>none
def d9b (N:Nat) (st:St):IOp->Bool
 | .store _ _ _ y=>match giv st N y (rdv st y) with
  | some r=>a0m r.2
  | none=>true
 | _=>true
def c8l (N:Nat) (st:St):IOp->Prop
 | .store _ _ _ y=>match giv st N y (rdv st y) with
  | some r=>a0m r.2=true
  | none=>True
 | _=>True
theorem d5w {N:Nat} {st:St} {i:IOp} (h:d9b N st i=true):c8l N st i:=by
 cases i<;>try trivial
 simp only [d9b,c8l] at h ⊢
 split<;>rename_i hh
 ·rw [hh] at h; exact h
 ·trivial
theorem e2c {D:Nat->Prop} {N:Nat} {st:St} {sw:List Nat} {d:Option Nat} {G:GG} {i:IOp} {xs:List X} (ho:b1t i=some xs) (hx:∀ x∈xs,XO D N st x) (hd:DD D N d) (hs:c8l N st i\/∀ t,t < N->D t):FpP D N (a05 G N d i) st sw tt:=by
 cases i<;>simp only [b1t,Option.some.injEq,reduceCtorEq] at ho
 case mv=>subst ho; exact e2b (hx _ (by simp)) hd
 case asg=>subst ho; exact d2f (hx _ (by simp)) hd
 case mva=>subst ho; exact d2f (hx _ (by simp)) hd
 case mvf=>subst ho; exact e2b (hx _ (by simp)) hd
 case pick=>subst ho; exact d4b (hx _ (by simp)) (hx _ (by simp)) (hx _ (by simp)) hd
 case alloc=>exact d0b hd
 case box=>subst ho; exact e15 (hx _ (by simp)) hd
 case build=>subst ho; exact d0c (fun p hp=>hx _ (List.mem_map.2 ⟨p,hp,rfl⟩)) hd
 case bslice=>subst ho; exact c62 (fun p hp=>hx _ (List.mem_map.2 ⟨p,hp,rfl⟩)) hd
 case load=>subst ho; exact c63 (hx _ (by simp)) hd
 case store T s x y=>
  subst ho
  by_cases hdn:d=none
  ·refine d0n (hx _ (by simp)) (hx _ (by simp)) hdn fun r hr=> ?_
   rcases hs with hs | hs
   ·simp only [c8l,hr] at hs
    exact .inl hs
   ·exact .inr hs
  ·intro a st' hr
   exfalso
   cases d with
   | none=>exact hdn rfl
   | some d=>cases hr
 case nilck=>subst ho; exact d0j (hx _ (by simp)) hd
 case bin=>subst ho; exact e14 (hx _ (by simp)) (hx _ (by simp)) hd
 case un=>subst ho; exact f4b (hx _ (by simp)) hd
 case eqs=>subst ho; exact e16 (hx _ (by simp)) (hx _ (by simp)) hd
 case conv s t k x=>
  cases k<;>simp only [b1t,Option.some.injEq,reduceCtorEq] at ho
  subst ho; exact d0d (hx _ (by simp)) hd
 case mki=>subst ho; exact e19 (hx _ (by simp)) hd
 case mks=>subst ho; exact e2a (hx _ (by simp)) (hx _ (by simp)) hd
 case slice T sz x lo hi mx=>
  cases mx<;>simp only [b1t,Option.some.injEq,reduceCtorEq] at ho
  subst ho
  exact d0m (hx _ (by simp)) (fun y hy=>hx _ (by simp [hy])) (fun y hy=>hx _ (by simp [hy])) hd
 case faddr=>subst ho; exact d0e (hx _ (by simp)) hd
 case aaddr=>subst ho; exact d0a (hx _ (by simp)) hd
 case iaddr=>subst ho; exact d0g (hx _ (by simp)) (hx _ (by simp)) hd
 case ext=>subst ho; exact e17 (hx _ (by simp)) hd
 case fld=>subst ho; exact e18 (hx _ (by simp)) hd
 case tas=>subst ho; exact e2f (hx _ (by simp)) hd
 case len=>subst ho; exact d0h (hx _ (by simp)) hd
 case mkmap=>exact d0i hd
 case mget=>subst ho; exact d39 (hx _ (by simp)) (hx _ (by simp)) hd
 case mset=>subst ho; exact d4a (hx _ (by simp)) (hx _ (by simp)) (hx _ (by simp))
 case app=>subst ho; exact e13 (hx _ (by simp)) (hx _ (by simp)) hd
 case mm mx ts xs2=>
  match xs2,ho with
  | [x,y],ho=>
   simp only [Option.some.injEq] at ho
   subst ho
   exact f4a (hx _ (by simp)) (hx _ (by simp)) hd
open Classical
def a8l (st:St):X->List Nat
 | .t n=>n::(a2m (st.s n)).toList
 | _=>[]
def a0v (st:St):List X->List Nat
 | []=>[]
 | x::xs=>a8l st x++a0v st xs
def slX:X->List Nat
 | .t n=>[n]
 | _=>[]
def slL:List X->List Nat
 | []=>[]
 | x::xs=>slX x++slL xs
theorem b65 {st:St} {x:X}:∀ {xs:List X},x∈xs->∀ t∈a8l st x,t∈a0v st xs
 | y::ys,h,t,ht=>by
  rcases List.mem_cons.1 h with rfl | h
  ·simp [a0v,ht]
  ·simp [a0v,b65 h t ht]
theorem d51 {DL:List Nat} {N:Nat} {st:St} {xs:List X} (h:∀ t∈a0v st xs,t∈DL) (hN:∀ t∈DL,t < N):∀ x∈xs,XO (· ∈DL) N st x:=fun x hx=>{
 t:=fun t ht=>by
  subst ht
  have:=h t (b65 hx t (by simp [a8l]))
  exact ⟨this,hN t this⟩
 b:=fun u hu=>by
  cases x with
  | t t=>
   have:=h u (b65 hx u (by simp [a8l,show a2m (st.s t)=some u from hu]))
   exact ⟨this,hN u this⟩
  | _=>cases hu }
def fr (N:Nat) (W:List Nat) (st st':St):Prop:=∀ t,t < N->t ∉ W->agr st st' t
section
variable {V:List (Nat×Nat)} {P:Program} {G:GG} {N:Nat} {st st':St} {step:(St->Prop)->St->Prop}
theorem Loc.widen {rd wr DL W:List Nat} (h:Loc P G N V step st st' rd wr) (h1:∀ t∈rd,t∈DL) (h2:∀ t∈wr,t∈DL) (h3:∀ t∈DL,t < N) (h4:∀ t∈W,t < N) (hf:fr N W st st'):Loc P G N V step st st' DL W where
 lt t ht:=ht.elim (h3 t) (h4 t)
 frame t ht hn:=hf t ht hn
 loc st2 hV hst K hK:=h.loc st2 hV (fun t ht=>hst t (.inl (ht.elim (h1 t) (h2 t)))) K fun st2' g1 g2=>hK st2' (fun t ht=>by
   by_cases hw:t∈wr
   ·exact g1 t hw
   ·exact ((h.frame t (h4 t ht) hw).symm.trans (hst t (.inr ht))).trans (g2 t (h4 t ht) hw)) (fun t ht hn=>by
   by_cases hw:t∈wr
   ·exact ((hst t (.inl (h2 t hw))).symm.trans (hf t ht hn)).trans (g1 t hw)
   ·exact g2 t ht hw)
theorem e3e {d:Option Nat} {i:IOp} {xs:List X} {W:List Nat} (ho:b1t i=some xs) (he:evS G N d i st=some st') (hN:∀ t∈d.toList++a0v st xs,t < N) (hW:∀ t∈W,t < N) (hs:c8l N st i) (hf:fr N W st st') :
  Loc P G N V (b48 P G N d (.op i)) st st' (d.toList++a0v st xs) W:=by
 have hx:=d51 (DL:=d.toList++a0v st xs) (st:=st) (xs:=xs) (fun t ht=>by simp [ht]) hN
 have hd:DD (· ∈d.toList++a0v st xs) N d:=fun t ht=>by
  subst ht
  exact ⟨by simp,hN t (by simp)⟩
 unfold evS at he
 cases hr:(a05 G N d i).run st with
 | none=>rw [hr] at he; cases he
 | some r=>
  obtain ⟨u,st1⟩:=r
  rw [hr] at he
  simp only [Option.map,Option.some.injEq] at he
  subst he
  obtain ⟨rd,wr,sw',g1,g2,g3,_⟩:=e2c (sw:=[]) ho hx hd (.inl hs) u st1 hr
  obtain ⟨st2,rd2,wr2,⟨rfl,rfl,rfl⟩,hL⟩:=b6w (V:=V) (P:=P) (G:=G) (N:=N) (d:=d) (act:= .op i) (st:=st) (K:=fun st2 rd2 wr2=>st2=st1/\rd2=rd/\wr2=wr) (by simp only [d9p,g1,and_self])
  exact hL.widen g2 g3 hN hW hf
theorem d4s {d:Nat} {p:Nat×Nat} (hI:a6b V st) (hp:p∈V) (hd:d < N) (he:evS G N (some d) (.mv (.t p.1)) st=some st'):Loc P G N V (b48 P G N (some d) (.op (.mv (.t p.1)))) st st' (some d).toList [d]/\True:=by
 have run:∀ s:St,a6b V s->(a05 G N (some d) (.mv (.t p.1))).run s=some ((),s.put d (.ref p.1 [] 0 p.2)):=by
  intro s hs
  obtain ⟨h1,h2⟩:=hs p hp
  cases hv:s.s p.1<;>simp only [hv,b9f,reduceCtorEq] at h1
  simp only [a05,mvE,Ev.run_bind,a0u,rdv,rde,hv,b2p,Ev.run,setD,a2v,Option.bind,h2]
 have hst:st'=st.put d (.ref p.1 [] 0 p.2):=by
  simp only [evS,run st hI,Option.map,Option.some.injEq] at he
  exact he.symm
 subst hst
 refine ⟨⟨fun t ht=> ?_,fun t ht hn=> ?_,fun st2 hV2 hag K hK=> ?_⟩,trivial⟩
 ·rcases ht with ht | ht<;>simp at ht<;>subst ht<;>exact hd
 ·exact agr.putn _ (by simpa using hn)
 ·simp only [b48,run st2 hV2]
  refine hK _ (fun t ht=>(hag t (.inr ht)).put _) (fun t ht hn=>agr.putn _ (by simpa using hn))
theorem d0z {d:Option Nat} {i:IOp} {xs:List X} (ho:b1t i=some xs) (he:evS G N d i st=some st') (hN:∀ t∈d.toList++a0v st xs,t < N) :
  Loc P G N V (b48 P G N d (.op i)) st st' (List.range N) (List.range N):=by
 have hx:∀ x∈xs,XO (· < N) N st x:=fun x hx=>by
  have:=d51 (DL:=d.toList++a0v st xs) (st:=st) (xs:=xs) (fun t ht=>by simp [ht]) hN x hx
  exact { t:=fun t ht=>⟨(this.t t ht).2,(this.t t ht).2⟩,b:=fun u hu=>⟨(this.b u hu).2,(this.b u hu).2⟩ }
 have hd:DD (· < N) N d:=fun t ht=>by
  subst ht
  exact ⟨hN t (by simp),hN t (by simp)⟩
 unfold evS at he
 cases hr:(a05 G N d i).run st with
 | none=>rw [hr] at he; cases he
 | some r=>
  obtain ⟨u,st1⟩:=r
  rw [hr] at he
  simp only [Option.map,Option.some.injEq] at he
  subst he
  obtain ⟨rd,wr,sw',g1,g2,g3,_⟩:=e2c (sw:=[]) ho hx hd (.inr fun t ht=>ht) u st1 hr
  obtain ⟨st2,rd2,wr2,⟨rfl,rfl,rfl⟩,hL⟩:=b6w (V:=V) (P:=P) (G:=G) (N:=N) (d:=d) (act:= .op i) (st:=st) (K:=fun st2 rd2 wr2=>st2=st1/\rd2=rd/\wr2=wr) (by simp only [d9p,g1,and_self])
  exact hL.widen (fun t ht=>List.mem_range.2 (g2 t ht)) (fun t ht=>List.mem_range.2 (g3 t ht)) (fun t ht=>List.mem_range.1 ht) (fun t ht=>List.mem_range.1 ht) (fun t ht hn=>absurd (List.mem_range.2 ht) hn)
theorem d0y {d:Option Nat} {f:FuncId} {args:List (Bool×X)} {tys:List TypeId} {st1 st2:St} {res:AV} {W:List Nat} (h1:gvs N (N+2) args (some st)=some st1) (h2:pss N (N+2) args (some st1)=some st2) (hA:ACalls P G f (a4v N args.length st2) res) (hn:noRef res=true)
  (hN:∀ t∈d.toList++a0v st (args.map (·.2)),t < N) (hW:∀ t∈W,t < N) (hf:fr N W st (a9w (if a0x res then st1 else st2) N d res)) :
  Loc P G N V (b48 P G N d (.call f args tys)) st (a9w (if a0x res then st1 else st2) N d res) (d.toList++a0v st (args.map (·.2))) W:=by
 have hx:=d51 (DL:=d.toList++a0v st (args.map (·.2))) (st:=st) (xs:=args.map (·.2)) (fun t ht=>by simp [ht]) hN
 have hx':∀ p∈args,XO (· ∈d.toList++a0v st (args.map (·.2))) N st p.2:=fun p hp=>hx _ (List.mem_map.2 ⟨p,hp,rfl⟩)
 have hd:DD (· ∈d.toList++a0v st (args.map (·.2))) N d:=fun t ht=>by
  subst ht
  exact ⟨by simp,hN t (by simp)⟩
 rw [<-a6u] at h1
 cases hr1:(a41 N (N+2) args).run st with
 | none=>rw [hr1] at h1; cases h1
 | some r1=>
  obtain ⟨u1,st1'⟩:=r1
  rw [hr1] at h1
  simp only [Option.map,Option.some.injEq] at h1
  subst h1
  rw [<-a3r] at h2
  cases hr2:(a3e N (N+2) args).run st1' with
  | none=>rw [hr2] at h2; cases h2
  | some r2=>
   obtain ⟨u2,st2'⟩:=r2
   rw [hr2] at h2
   simp only [Option.map,Option.some.injEq] at h2
   subst h2
   obtain ⟨rd,wr,sw1,a1,a2,a3,hb,_,a4⟩:=c3c (N:=N) (D:=(· ∈d.toList++a0v st (args.map (·.2)))) args (N+2) (st:=st) (sw:=[]) (P:=fun _ st' sw'=>BLe N st st'/\(∀ t∈[],t∈sw')/\(∀ i x,args[i]? =some (true,x)->N+2+i∈sw')) (by omega) hx' (fun st' sw' b1 b2 b3=>⟨b1,b2,b3⟩) u1 st1' hr1
   obtain ⟨rd2,wr2,sw2,c1,c2,c3,c4,c5⟩:=b9d (N:=N) (D:=(· ∈d.toList++a0v st (args.map (·.2)))) args (N+2) (st:=st1') (sw:=sw1) (P:=fun _ st' sw'=>(∀ t∈sw1,t∈sw')/\(∀ i x,args[i]? =some (false,x)->N+2+i∈sw')) (by omega) (fun p hp=>(hx' p hp).le hb) (fun st' sw' b1 b2=>⟨b1,b2⟩) u2 st2' hr2
   have hfin:∃ rd3 wr3 sw3,(c0k N d res).runF N ((if a0x res then st1' else st2').clear N) []=some ⟨(),a9w (if a0x res then st1' else st2') N d res,rd3,wr3,sw3⟩/\(∀ t∈rd3,t∈d.toList++a0v st (args.map (·.2)))/\(∀ t∈wr3,t∈d.toList++a0v st (args.map (·.2))):=by
    cases d with
    | none=>exact ⟨[],[],[],rfl,by simp,by simp⟩
    | some d=>
     obtain ⟨rd3,wr3,sw3,e1,e2,e3,_⟩:=FpP.thru (D:=(· ∈(some d).toList++a0v st (args.map (·.2)))) (N:=N) (st:=(if a0x res then st1' else st2').clear N) (sw:=[]) (d:=some d) (v:=res) (M:=N) (P:=tt) (Nat.le_refl _) hd (fun _ _=>trivial) () _ (by rw [a6v])
     exact ⟨rd3,wr3,sw3,e1,e2,e3⟩
   obtain ⟨rd3,wr3,sw3,e1,e2,e3⟩:=hfin
   obtain ⟨st3,rd4,wr4,⟨rfl,hrd,hwr⟩,hL⟩:=b6w (V:=V) (P:=P) (G:=G) (N:=N) (d:=d) (act:= .call f args tys) (st:=st) (K:=fun s2 r2 w2=>s2=a9w (if a0x res then st1' else st2') N d res/\(∀ t∈r2,t∈d.toList++a0v st (args.map (·.2)))/\(∀ t∈w2,t∈d.toList++a0v st (args.map (·.2)))) (by
    refine ⟨_,_,_,res,a1,c1,hA,hn,e1,fun i hi=> ?_,rfl,fun t ht=> ?_,fun t ht=> ?_⟩
    ·cases ha:args[i]? with
     | none=>simp at ha; omega
     | some p=>
      obtain ⟨b,x⟩:=p
      cases b with
      | true=>exact c4 _ (a4 i x ha)
      | false=>exact c5 i x ha
    ·simp only [List.mem_append] at ht
     rcases ht with ((ht | ht) | ht) | ht
     ·exact a2 t ht
     ·exact c2 t ht
     ·exact c3 t ht
     ·exact e2 t ht
    ·split at ht<;>simp only [List.mem_append] at ht
     ·rcases ht with ht | ht
      ·exact a3 t ht
      ·exact e3 t ht
     ·rcases ht with (ht | ht) | ht
      ·exact a3 t ht
      ·exact c3 t ht
      ·exact e3 t ht)
   exact hL.widen hrd hwr hN hW hf
end
def b9b (st:St) (N:Nat) (T:List (Nat×AV)) (d:Option Nat) (res:AV):St:=match d with
 | some d=>(st.lentS N T).thru N d res
 | none=>st.lentS N T
theorem a9p {α:Type} {T:List (Nat×α)} {t:Nat} {v:α} (h:T.lookup t=some v):(t,v)∈T:=by
 induction T with
 | nil=>simp at h
 | cons p T ih=>
  obtain ⟨u,x⟩:=p
  by_cases h2:t=u
  ·subst h2
   simp at h
   simp [h]
  ·have:(t==u)=false:=by simpa using h2
   simp only [List.lookup_cons,this] at h
   exact List.mem_cons_of_mem _ (ih h)
def d0x:AV->Bool
 | .lit _=>true
 | _=>false
def a4i (rd:List Nat):X->Bool
 | .t n=>rd.contains n
 | _=>true
def b7g (st:St) (rd:List Nat) (args:List (Bool×X)):Bool:=args.all fun p=> !p.1&&(d0x (rdv st p.2)&&a4i rd p.2)
def a1f (st:St) (j:Nat):List (Bool×X)->St
 | []=>st
 | p::ps=>a1f (st.put j (rdv st p.2)) (j+1) ps
mutual
def a2g (rd:List Nat):AV->Bool
 | .ref t _ _ _=>rd.contains t
 | .bor t _ _ _ _=>rd.contains t
 | .fn _ fs cs=>a2c rd fs&&a2c rd cs
 | _=>true
def a2c (rd:List Nat):List AV->Bool
 | []=>true
 | k::ks=>a2g rd k&&a2c rd ks
end
def b9i (st:St) (rd:List Nat) (n:Nat) (lay:List CS):Bool:=lay.all fun
 | .p k=>decide (k < n)
 | .x y=>a4i rd y&&a2g rd (xv st y)
 | .l _=>false
theorem c7f {v:AV} (h:d0x v=true):∃ u,v= .lit u:=by cases v<;>simp [d0x] at h; exact ⟨_,rfl⟩
theorem c2l {st:St} {j N:Nat} {v:AV} {x:X} (hx:∀ n,x= .t n->n < N) (hj:N<=j):rdv (st.put j v) x=rdv st x:=by
 cases x with
 | t n=>have:=hx n rfl; simp [rdv,show n≠j by omega]
 | _=>rfl
theorem b0z {N:Nat}:∀ (args:List (Bool×X)) (j:Nat) (st:St),(args.all fun p=> !p.1)=true->(a41 N j args).run st=some ((),st)
 | [],j,st,_=>rfl
 | (g,x)::xs,j,st,h=>by
  simp only [List.all_cons,Bool.and_eq_true,Bool.not_eq_true'] at h
  obtain ⟨rfl,h2⟩:=h
  simp only [a41,Bool.false_eq_true,if_false,Ev.run_bind,Ev.run_pure,Option.bind]
  exact b0z xs (j+1) st h2
theorem a86 {N:Nat}:∀ (args:List (Bool×X)) (j:Nat) (st:St),N<=j->(∀ p∈args,p.1=false/\d0x (rdv st p.2)=true/\∀ n,p.2= .t n->n < N)->(a3e N j args).run st=some ((),a1f st j args)
 | [],j,st,_,_=>rfl
 | (g,x)::xs,j,st,hj,h=>by
  obtain ⟨h1,h2,h3⟩:=h _ (List.mem_cons_self ..)
  simp only at h1 h2 h3
  subst h1
  obtain ⟨u,hu⟩:=c7f h2
  have hp:(b7v N x j).run st=some ((),st.put j (rdv st x)):=by
   unfold b7v
   simp only [Ev.run_bind,a0u,hu,Option.bind,noRef,a0g,if_true]
   cases x<;>simp [a24,a0n,frz,a51]
  simp only [a3e,Bool.false_eq_true,if_false,Ev.run_bind,hp,Option.bind,a1f]
  refine a86 xs (j+1) _ (by omega) fun p hp2=> ?_
  obtain ⟨k1,k2,k3⟩:=h p (List.mem_cons_of_mem _ hp2)
  exact ⟨k1,by rw [c2l k3 hj]; exact k2,k3⟩
theorem b0t {N:Nat}:∀ (args:List (Bool×X)) (j:Nat) (st:St),(∀ t,t < j->(a1f st j args).s t=st.s t)
 | [],j,st,t,_=>rfl
 | p::ps,j,st,t,ht=>by
  rw [a1f,b0t (N:=N) ps (j+1) _ t (by omega)]
  simp [show t≠j by omega]
theorem b4k:∀ (args:List (Bool×X)) (j:Nat) (st:St) (N:Nat),N<=j->(∀ p∈args,d0x (rdv st p.2)=true/\∀ n,p.2= .t n->n < N)->∀ t,(a1f st j args).ep t=st.ep t
 | [],j,st,N,_,_,t=>rfl
 | p::ps,j,st,N,hj,h,t=>by
  obtain ⟨h1,h2⟩:=h _ (List.mem_cons_self ..)
  obtain ⟨u,hu⟩:=c7f h1
  rw [a1f,b4k ps (j+1) _ N (by omega) (fun q hq=>by
   obtain ⟨k1,k2⟩:=h q (List.mem_cons_of_mem _ hq)
   exact ⟨by rw [c2l k2 hj]; exact k1,k2⟩) t]
  simp [hu,St.put_ep,a0q]
theorem a8p {N:Nat}:∀ (args:List (Bool×X)) (j:Nat) (st:St),N<=j->(∀ p∈args,∀ n,p.2= .t n->n < N)->∀ i p,args[i]? =some p->(a1f st j args).s (j+i)=rdv st p.2
 | [],j,st,_,_,i,p,h=>by simp at h
 | q::ps,j,st,hj,hx,i,p,h=>by
  rw [a1f]
  cases i with
  | zero=>
   simp only [List.getElem?_cons_zero,Option.some.injEq] at h
   subst h
   rw [b0t (N:=N) ps (j+1) _ (j+0) (by omega)]
   simp
  | succ i=>
   have:=a8p ps (j+1) (st.put j (rdv st q.2)) (by omega) (fun p hp=>hx p (List.mem_cons_of_mem _ hp)) i p (by simpa using h)
   rw [show j+(i+1)=j+1+i by omega,this]
   exact c2l (hx p (List.mem_cons_of_mem _ (List.mem_of_getElem? (by simpa using h)))) hj
mutual
theorem c0e {stA stB:St} {rd:List Nat} {L:List (Nat×Nat)} (h:∀ t,t∈rd->stB.ep t=stA.ep t):∀ av,a2g rd av=true->trA stB L av=trA stA L av
 | .ref t q o e,hr=>by
  simp only [a2g,List.contains_iff_mem] at hr
  simp only [trA,h t hr]
 | .fn f fs cs,hr=>by
  simp only [a2g,Bool.and_eq_true] at hr
  simp only [trA,b41 h fs hr.1,b41 h cs hr.2]
 | .bor _ _ _ _ _,_=>by simp only [trA]
 | .dead,_ | .lit _,_ | .sl _ _,_ | .ip _ _,_ | .own _ _ _,_ | .var _,_ | .agg _,_ | .tup _,_ | .ifc _ _,_ | .mp _ _,_ | .loan _,_=>by simp only [trA]
theorem b41 {stA stB:St} {rd:List Nat} {L:List (Nat×Nat)} (h:∀ t,t∈rd->stB.ep t=stA.ep t):∀ ks,a2c rd ks=true->trL stB L ks=trL stA L ks
 | [],_=>by simp only [trL]
 | k::ks,hr=>by
  simp only [a2c,Bool.and_eq_true] at hr
  simp only [trL,c0e h k hr.1,b41 h ks hr.2]
end
theorem b7u {N:Nat} {s1 s2 t1 t2:St} {rd:List Nat} (h:∀ t,t∈rd->t1.s t=s1.s t/\t2.s t=s2.s t/\t2.ep t=s2.ep t):∀ (es:List (Option Nat×AV)) (acc:List AV) (L:List (Nat×Nat)),(∀ p∈es,a2g rd p.2=true)->pX N t1 t2 acc L es=pX N s1 s2 acc L es
 | [],acc,L,_=>by simp only [pX]
 | (some k,av)::es,acc,L,hr=>by
  have ih:∀ a l,pX N t1 t2 a l es=pX N s1 s2 a l es:=fun a l=>b7u h es a l fun p hp=>hr p (List.mem_cons_of_mem _ hp)
  simp only [pX,ih]
 | (none,av)::es,acc,L,hr=>by
  have ih:∀ a l,pX N t1 t2 a l es=pX N s1 s2 a l es:=fun a l=>b7u h es a l fun p hp=>hr p (List.mem_cons_of_mem _ hp)
  have h0:=hr _ (List.mem_cons_self ..)
  simp only at h0
  have gen:∀ av,a2g rd av=true->trA t2 L av=trA s2 L av:=fun av ha=>c0e (fun t ht=>(h t ht).2.2) av ha
  cases av with
  | ref t q o e=>
   have ht:t∈rd:=by simpa [a2g] using h0
   obtain ⟨a1,a2,a3⟩:=h t ht
   cases q with
   | nil=>
    cases o with
    | zero=>simp only [pX,ih,a1,a2,a3]
    | succ o=>simp only [pX,gen _ h0,ih]
   | cons i q=>simp only [pX,gen _ h0,ih]
  | bor t q lo n e=>
   have ht:t∈rd:=by simpa [a2g] using h0
   obtain ⟨a1,a2,a3⟩:=h t ht
   cases q with
   | nil=>
    cases lo with
    | zero=>simp only [pX,ih,a1,a2,a3]
    | succ o=>simp only [pX,gen _ h0,ih]
   | cons i q=>simp only [pX,gen _ h0,ih]
  | _=>simp only [pX,gen _ h0,ih]
theorem c7h {V:List (Nat×Nat)} {P:Program} {G:GG} {N:Nat} {st:St} {d:Option Nat} {cv:X} {args:List (Bool×X)} {lay:List CS} {tys:List TypeId} {f:FuncId} {fs cs pre:List AV} {L:List (Nat×Nat)} {res:AV} {posts:List (Nat×AV)} {rd:List Nat}
  (ha:b7g st rd args=true) (hcv:a4i rd cv=true) (hfn:xv st cv= .fn f fs cs) (hfB:fnB P f=true) (hri:(a2c rd fs&&a2c rd cs)=true) (hlay:b9i st rd args.length lay=true)
  (hpx:pX N st (a1f st (N+2) args) [] [] (b5t N (a1f st (N+2) args) fs lay cs)=some (pre,L)) (hA:ACallsX P G f pre res posts) (hnr:noRef res=true) (hpo:posts.map (·.1)=L.map (·.2)) (hvar:∀ i av,(i,av)∈posts->∃ ks,av= .var ks/\a0m ks=true/\∃ ks0,pre[i]? =some (.var ks0))
  (hrd:∀ t∈rd,t < N) (hd:∀ t∈d.toList,t < N) (hL:∀ t∈L.map (·.1),t < N/\t∈rd) :
  Loc P G N V (b48 P G N d (.callx cv args lay tys)) st (b9b st N ((L.map (·.1)).zip (posts.map (·.2))) d res) (d.toList++rd) (d.toList++L.map (·.1)):=by
 have hT:∀ t q,a7z ((L.map (·.1)).zip (posts.map (·.2))) t q=false:=by
  intro t q
  unfold a7z
  split
  ·rename_i i q' ks hl
   have hm:=(List.of_mem_zip (a9p hl)).2
   obtain ⟨p,hp,hpe⟩:=List.mem_map.1 hm
   obtain ⟨ks',he,hno,_⟩:=hvar p.1 p.2 hp
   rw [hpe] at he
   injection he with he
   subst he
   simp [hno]
  ·rename_i i q' sz n ks hl
   have hm:=(List.of_mem_zip (a9p hl)).2
   obtain ⟨p,hp,hpe⟩:=List.mem_map.1 hm
   obtain ⟨ks',he,_⟩:=hvar p.1 p.2 hp
   rw [hpe] at he
   cases he
  ·rfl
 have run:∀ s:St,(∀ t,t∈d.toList++rd\/t∈d.toList++L.map (·.1)->agr st s t)->∀ K:St->Prop,K (b9b s N ((L.map (·.1)).zip (posts.map (·.2))) d res)->b48 P G N d (.callx cv args lay tys) K s:=by
  intro s hag K hK
  have hrs:∀ t,t∈rd->agr st s t:=fun t ht=>hag t (.inl (List.mem_append.2 (.inr ht)))
  have hx:∀ x,a4i rd x=true->rdv s x=rdv st x/\xv s x=xv st x/\∀ n,x= .t n->n < N:=fun x hx=>by
   cases x with
   | t n=>
    have hn:n∈rd:=by simpa [a4i] using hx
    refine ⟨(hrs n hn).1,(hrs n hn).1,fun m hm=> ?_⟩
    injection hm with hm
    subst hm
    exact hrd _ hn
   | _=>exact ⟨rfl,rfl,fun _ h=>by cases h⟩
  have hargs:∀ p∈args,p.1=false/\d0x (rdv s p.2)=true/\(∀ n,p.2= .t n->n < N)/\rdv s p.2=rdv st p.2:=fun p hp=>by
   have:=List.all_eq_true.1 ha p hp
   simp only [Bool.and_eq_true,Bool.not_eq_true'] at this
   obtain ⟨k1,k2,k3⟩:=this
   obtain ⟨e1,_,e3⟩:=hx _ k3
   exact ⟨k1,by rw [e1]; exact k2,e3,e1⟩
  have hargs0:∀ p∈args,d0x (rdv st p.2)=true/\∀ n,p.2= .t n->n < N:=fun p hp=>by
   obtain ⟨_,k2,k3,k4⟩:=hargs p hp
   exact ⟨by rw [<-k4]; exact k2,k3⟩
  have hg:=b0z (N:=N) args (N+2) s (List.all_eq_true.2 fun p hp=>by simp [(hargs p hp).1])
  have hp:=a86 (N:=N) args (N+2) s (by omega) fun p hp=>⟨(hargs p hp).1,(hargs p hp).2.1,(hargs p hp).2.2.1⟩
  have hep:=b4k args (N+2) s N (by omega) fun p hp=>⟨(hargs p hp).2.1,(hargs p hp).2.2.1⟩
  have hep0:=b4k args (N+2) st N (by omega) hargs0
  have hps:=b0t (N:=N) args (N+2) s
  have hps0:=b0t (N:=N) args (N+2) st
  have hxv:∀ (s:St) (y:X),(∀ n,y= .t n->n < N)->xv (a1f s (N+2) args) y=xv s y:=fun s y hy=>by
   cases y with
   | t n=>exact b0t (N:=N) args (N+2) s n (by have:=hy n rfl; omega)
   | _=>rfl
  have hcv2:xv (a1f s (N+2) args) cv= .fn f fs cs:=by rw [hxv s cv (hx cv hcv).2.2,(hx cv hcv).2.1]; exact hfn
  have hlay2:lay.map (c23 N (a1f s (N+2) args))=lay.map (c23 N (a1f st (N+2) args)):=by
   apply List.map_congr_left
   intro c hc
   have:=List.all_eq_true.1 hlay c hc
   cases c with
   | p k=>
    have hk:k < args.length:=by simpa using this
    have h1:=a8p (N:=N) args (N+2) s (by omega) (fun p hp=>(hargs p hp).2.2.1) k args[k] (by simp [hk])
    have h2:=a8p (N:=N) args (N+2) st (by omega) (fun p hp=>(hargs p hp).2.2.1) k args[k] (by simp [hk])
    simp only [c23,h1,h2,(hargs _ (List.getElem_mem hk)).2.2.2]
   | x y=>
    simp only [Bool.and_eq_true] at this
    have hy:=hx y this.1
    simp only [c23,hxv s y hy.2.2,hxv st y hy.2.2,hy.2.1]
   | l t=>cases this
  have heff:b5t N (a1f s (N+2) args) fs lay cs=b5t N (a1f st (N+2) args) fs lay cs:=by simp only [b5t,hlay2]
  simp only [Bool.and_eq_true] at hri
  have hrefL:∀ ks:List AV,a2c rd ks=true->∀ k∈ks,a2g rd k=true:=by
   intro ks
   induction ks with
   | nil=>intro _ k hk; simp at hk
   | cons k ks ih=>
    intro h k' hk'
    simp only [a2c,Bool.and_eq_true] at h
    rcases List.mem_cons.1 hk' with rfl | hk'
    ·exact h.1
    ·exact ih h.2 k' hk'
  have hrefs:∀ p∈b5t N (a1f st (N+2) args) fs lay cs,a2g rd p.2=true:=by
   intro p hp
   simp only [b5t,List.mem_append,List.mem_map] at hp
   rcases hp with ⟨k,hk,rfl⟩ | ⟨c,hc,rfl⟩ | ⟨k,hk,rfl⟩
   ·exact hrefL fs hri.1 k hk
   ·have:=List.all_eq_true.1 hlay c hc
    cases c with
    | p k=>
     have hk:k < args.length:=by simpa using this
     have h2:=a8p (N:=N) args (N+2) st (by omega) (fun p hp=>(hargs p hp).2.2.1) k args[k] (by simp [hk])
     obtain ⟨u,hu⟩:=c7f (hargs0 _ (List.getElem_mem hk)).1
     simp only [c23,h2,hu,a2g]
    | x y=>
     simp only [Bool.and_eq_true] at this
     simp only [c23,hxv st y (hx y this.1).2.2]
     exact this.2
    | l t=>cases this
   ·exact hrefL cs hri.2 k hk
  have hpx2:pX N s (a1f s (N+2) args) [] [] (b5t N (a1f s (N+2) args) fs lay cs)=some (pre,L):=by
   rw [heff,<-hpx]
   exact b7u (rd:=rd) (fun t ht=>⟨(hrs t ht).1,by rw [hps t (by have:=hrd t ht; omega),hps0 t (by have:=hrd t ht; omega)]; exact (hrs t ht).1,by rw [hep,hep0]; exact (hrs t ht).2⟩) _ _ _ hrefs
  have heq:∀ c:Bool,(if c=true then s else a1f s (N+2) args).lentS N ((L.map (·.1)).zip (posts.map (·.2)))=s.lentS N ((L.map (·.1)).zip (posts.map (·.2))):=by
   intro c
   cases c
   ·refine St.ext' (fun u=> ?_) (fun u=>hep u)
    simp only [St.lentS,Bool.false_eq_true,if_false]
    by_cases hu:u < N
    ·simp only [hu,if_true,hps u (by omega)]
    ·simp only [hu,if_false]
   ·rfl
  simp only [b48,c2y]
  refine ⟨f,fs,cs,s,a1f s (N+2) args,L,pre,res,posts,_,hg,hp,hcv2,hfB,hpx2,hA,hnr,hpo,fun i av hm=>(by obtain ⟨ks,rfl,_,ks0,h0⟩:=hvar i av hm; exact ⟨_,h0,trivial⟩),?_,hK⟩
  rw [heq]
  cases d with
  | none=>simp only [c0k,Ev.run_pure,b9b]
  | some d=>simp only [c0k,a6v,b9b]
 have low:∀ s:St,∀ t,t < N->t ∉ d.toList++L.map (·.1)->agr s (b9b s N ((L.map (·.1)).zip (posts.map (·.2))) d res) t:=by
  intro s t ht hn
  simp only [List.mem_append,not_or] at hn
  have hlk:((L.map (·.1)).zip (posts.map (·.2))).lookup t=none:=by
   cases hl:((L.map (·.1)).zip (posts.map (·.2))).lookup t with
   | none=>rfl
   | some av=>exact absurd (List.of_mem_zip (a9p hl)).1 hn.2
  have hlent:agr s (s.lentS N ((L.map (·.1)).zip (posts.map (·.2)))) t:=by
   refine ⟨?_,rfl⟩
   simp only [St.lentS,ht,if_true,hlk]
   have:a7z ((L.map (·.1)).zip (posts.map (·.2)))=fun _ _=>false:=by funext a b; exact hT a b
   rw [this,a3l]
  cases d with
  | none=>exact hlent
  | some d=>
   have htd:t≠d:=by simpa using hn.1
   simp only [b9b]
   exact ((hlent.trans (agr.putn _ (by omega))).trans (agr.putn _ (by omega))).trans (agr.putn _ htd)
 refine ⟨fun t ht=> ?_,fun t ht hn=>low st t ht hn,fun s _ hag K hK=>run s hag K (hK _ (fun t ht=> ?_) fun t ht hn=>low s t ht hn)⟩
 ·rcases ht with ht | ht<;>rcases List.mem_append.1 ht with ht | ht
  ·exact hd t ht
  ·exact hrd t ht
  ·exact hd t ht
  ·exact (hL t ht).1
 ·have hgt:=hag t (.inr ht)
  have htN:t < N:=by
   rcases List.mem_append.1 ht with ht | ht
   ·exact hd t ht
   ·exact (hL t ht).1
  have hlent:agr (st.lentS N ((L.map (·.1)).zip (posts.map (·.2)))) (s.lentS N ((L.map (·.1)).zip (posts.map (·.2)))) t:=by
   refine ⟨?_,hgt.2⟩
   simp only [St.lentS,htN,if_true,hgt.1]
  cases d with
  | none=>exact hlent
  | some d=>
   simp only [b9b]
   exact ((hlent.put _).put _).put _
def wrE (v:AV) (x:X):List Nat:=if a0n v=true then [] else slX x
def Wop (st:St) (d:Option Nat):IOp->List Nat
 | .asg x=>d.toList++a8l st x
 | .mva x=>d.toList++slX x
 | .mvf x=>d.toList++slX x
 | .box _ _ x=>d.toList++slX x
 | .build _ _ parts=>d.toList++slL (parts.map fun p=>p.2.2.2)
 | .bslice _ _ _ _ _ parts=>d.toList++slL (parts.map fun p=>p.2)
 | .store _ _ x y=>a8l st x++slX y
 | .app _ _ _ _ x y=>d.toList++a0v st [x,y]
 | .mki _ x=>d.toList++slX x
 | .ext x _=>d.toList++wrE (rdv st x) x
 | .mset _ _ x _ _=>a8l st x
 | _=>d.toList
def c8x (b:Bool) (p q:Prop):Prop:=if b then p else q
abbrev DA:=List (List Nat)×List (Nat×Nat)
def a6d (V:List (Nat×Nat)) (st:St) (xs:List X):IOp->List Nat
 | .mv (.t t)=>if V.any (fun p=>p.1==t) then [] else a0v st xs
 | _=>a0v st xs
def f2m (N:Nat) (aft:DA) (fps:List (List Nat×List Nat)) (K:St->Prop) (st:St):Prop:=b51 aft.1 fps=true/\∀ st',(∀ t,t < N->agr st st' t)->K st'
section
variable (P:Program) (G:GG) (N:Nat) (aft:DA)
def c6g (ex:List Nat) (d:Option Nat) (act:IAct) (fps:List (List Nat×List Nat)) (Kn:List (List Nat×List Nat)->St->Prop) (st:St):Prop:=match act with
 | .op i=>match b1t i,evS G N d i st with
  | some xs,some st'=>c8x (d9b N st i) ((∀ t∈ex++(d.toList++a0v st xs),t < N)/\(∀ t∈Wop st d i,t < N)/\fr N (Wop st d i) st st'/\Kn (fps++[(ex++(d.toList++a6d aft.2 st xs i),Wop st d i)]) st')
   ((∀ t∈ex++(d.toList++a0v st xs),t < N)/\Kn (fps++[(ex++List.range N,List.range N)]) st')
  | _,_=>False
 | .call f args _=>match gvs N (N+2) args (some st) with
  | some st1=>match pss N (N+2) args (some st1) with
   | some st2=>∃ res W,ACalls P G f (a4v N args.length st2) res/\noRef res=true/\(∀ t∈ex++(d.toList++a0v st (args.map (·.2))),t < N)/\(∀ t∈W,t < N)/\fr N W st (a9w (if a0x res then st1 else st2) N d res)/\
    Kn (fps++[(ex++(d.toList++a0v st (args.map (·.2))),W)]) (a9w (if a0x res then st1 else st2) N d res)
   | none=>False
  | none=>False
 | .callx cv args lay _=>∃ f fs cs pre L res posts rd,b7g st rd args=true/\a4i rd cv=true/\xv st cv= .fn f fs cs/\fnB P f=true/\(a2c rd fs&&a2c rd cs)=true/\b9i st rd args.length lay=true/\
   pX N st (a1f st (N+2) args) [] [] (b5t N (a1f st (N+2) args) fs lay cs)=some (pre,L)/\ACallsX P G f pre res posts/\noRef res=true/\posts.map (·.1)=L.map (·.2)/\(∀ i av,(i,av)∈posts->∃ ks,av= .var ks/\a0m ks=true/\∃ ks0,pre[i]? =some (.var ks0))/\
   (∀ t∈ex++rd,t < N)/\(∀ t∈d.toList,t < N)/\(∀ t∈L.map (·.1),t < N/\t∈rd)/\Kn (fps++[(ex++(d.toList++rd),d.toList++L.map (·.1))]) (b9b st N ((L.map (·.1)).zip (posts.map (·.2))) d res)
 | .nilq _ _ _=>False
 | .bad _=>False
def a6c:List AO->List (List Nat×List Nat)->(St->Prop)->St->Prop
 | [],fps,K,st=>f2m N aft fps K st
 | io::rest,fps,K,st=>match io.g with
  | none=>c6g P G N aft [] io.dst io.act fps (fun fps st=>a6b aft.2 st/\a6c rest fps K st) st
  | some (_,t,want)=>match st.s t with
   | .lit v=>if b5j want v then c6g P G N aft [t] io.dst io.act fps (fun fps st=>a6b aft.2 st/\a6c rest fps K st) st else (∀ u∈t::io.dst.toList,u < N)/\a6b aft.2 (a2o io.dst st)/\a6c rest (fps++[([t],io.dst.toList)]) K (a2o io.dst st)
   | _=>False
end
section
variable {P:Program} {G:GG} {N:Nat} {aft:DA}
theorem c24 {ex:List Nat} {d:Option Nat} {act:IAct} {fps:List (List Nat×List Nat)} {Kn:List (List Nat×List Nat)->St->Prop} {st:St} (hI:a6b aft.2 st) (h:c6g P G N aft ex d act fps Kn st):∃ st' rd wr,Loc P G N aft.2 (b48 P G N d act) st st' rd wr/\(∀ t∈ex,t < N)/\Kn (fps++[(ex++rd,wr)]) st':=by
 cases act with
 | op i=>
  simp only [c6g] at h
  split at h
  ·rename_i xs st' ho he
   unfold c8x at h
   split at h
   ·rename_i hb
    obtain ⟨h1,h2,h4,h5⟩:=h
    have gen:a6d aft.2 st xs i=a0v st xs->∃ st' rd wr,Loc P G N aft.2 (b48 P G N d (.op i)) st st' rd wr/\(∀ t∈ex,t < N)/\Kn (fps++[(ex++rd,wr)]) st':=fun e=>⟨st',_,_,e3e (V:=aft.2) ho he (fun t ht=>h1 t (List.mem_append.2 (.inr ht))) h2 (d5w hb) h4,fun t ht=>h1 t (List.mem_append.2 (.inl ht)),by rw [e] at h5; exact h5⟩
    by_cases hm:∃ t,i= .mv (.t t)/\(aft.2.any fun p=>p.1==t)=true
    ·obtain ⟨t,rfl,ht⟩:=hm
     have e:a6d aft.2 st xs (.mv (.t t))=[]:=by simp only [a6d,ht,if_true]
     rw [e,List.append_nil] at h5
     obtain ⟨p,hp,hpt⟩:=List.any_eq_true.1 ht
     have hpt:p.1=t:=by simpa using hpt
     subst hpt
     cases d with
     | none=>
      exfalso
      have:=(hI p hp).1
      cases hv:st.s p.1<;>simp only [hv,b9f,reduceCtorEq] at this
      simp [evS,a05,mvE,Ev.run_bind,a0u,rdv,hv,b2p,Ev.run,setD,Option.bind] at he
     | some d=>
      obtain ⟨q1,q2⟩:=d4s (P:=P) (G:=G) (N:=N) hI hp (h2 d (by simp [Wop])) he
      exact ⟨st',_,_,q1,fun t ht=>h1 t (List.mem_append.2 (.inl ht)),h5⟩
    ·refine gen ?_
     unfold a6d
     split
     ·rename_i t
      rw [if_neg]
      intro hc
      exact hm ⟨t,rfl,hc⟩
     ·rfl
   ·obtain ⟨h1,h5⟩:=h
    exact ⟨st',_,_,d0z ho he (fun t ht=>h1 t (List.mem_append.2 (.inr ht))),fun t ht=>h1 t (List.mem_append.2 (.inl ht)),h5⟩
  ·exact h.elim
 | call f args tys=>
  simp only [c6g] at h
  split at h
  ·rename_i st1 hg
   split at h
   ·rename_i st2 hp
    obtain ⟨res,W,h1,h2,h3,h4,h5,h6⟩:=h
    exact ⟨_,_,_,d0y hg hp h1 h2 (fun t ht=>h3 t (List.mem_append.2 (.inr ht))) h4 h5,fun t ht=>h3 t (List.mem_append.2 (.inl ht)),h6⟩
   ·exact h.elim
  ·exact h.elim
 | callx cv args lay tys=>
  simp only [c6g] at h
  obtain ⟨f,fs,cs,pre,L,res,posts,rd,h1,h2,h3,h4,h5,h6,h7,h8,h9,h10,h11,h12,h13,h14,h15⟩:=h
  exact ⟨_,_,_,c7h h1 h2 h3 h4 h5 h6 h7 h8 h9 h10 h11 (fun t ht=>h12 t (List.mem_append.2 (.inr ht))) h13 h14,fun t ht=>h12 t (List.mem_append.2 (.inl ht)),h15⟩
 | nilq T x yT=>exact h.elim
 | bad o=>exact h.elim
theorem a6h:∀ (ios:List AO) (fps:List (List Nat×List Nat)) (K:St->Prop) (st:St),a6b aft.2 st->a6c P G N aft ios fps K st->dCh P G N aft.2 ios fps (fun stn fps=>b51 aft.1 fps=true/\∀ st',(∀ t,t < N->agr stn st' t)->K st') st
 | [],fps,K,st,hI,h=>h
 | io::rest,fps,K,st,hI,h=>by
  simp only [a6c] at h
  simp only [dCh]
  cases hg:io.g with
  | none=>
   simp only [hg] at h
   obtain ⟨st',rd,wr,hL,_,hI',hK⟩:=c24 hI h
   refine ⟨st',rd,wr,?_,hI',by simpa using a6h rest _ K st' hI' hK⟩
   have:a9e P G N io=b48 P G N io.dst io.act:=by funext K st; simp only [a9e,hg]
   rw [this]; exact hL
  | some g=>
   obtain ⟨j,t,want⟩:=g
   simp only [hg] at h
   split at h
   ·rename_i v hv
    split at h
    ·rename_i hw
     obtain ⟨st',rd,wr,hL,hex,hI',hK⟩:=c24 hI h
     refine ⟨st',t::rd,wr,?_,hI',by simpa using a6h rest _ K st' hI' hK⟩
     exact {
      lt:=fun u hu=>by
       rcases hu with hu | hu
       ·rcases List.mem_cons.1 hu with rfl | hu
        ·exact hex _ (by simp)
        ·exact hL.lt u (.inl hu)
       ·exact hL.lt u (.inr hu)
      frame:=hL.frame
      loc:=fun st2 hV2 hst K2 hK2=>by
       have h1:st2.s t= .lit v:=by rw [(hst t (.inl (by simp))).1,hv]
       simp only [a9e,hg,h1,hw,if_true]
       exact hL.loc st2 hV2 (fun u hu=>hst u (hu.imp (List.mem_cons_of_mem _) id)) K2 hK2 }
    ·rename_i hw
     obtain ⟨hN,hI',hK⟩:=h
     refine ⟨_,_,_,?_,hI',a6h rest _ K _ hI' hK⟩
     exact {
      lt:=fun u hu=>hN u (by rcases hu with hu | hu<;>simp at hu ⊢<;>simp [hu])
      frame:=fun u hu hn=>by
       cases hd:io.dst with
       | none=>simp only [a2o]; exact agr.refl _ _
       | some d=>
        simp only [a2o]
        refine agr.putn _ ?_
        rintro rfl
        exact hn (by simp [hd])
      loc:=fun st2 hV2 hst K2 hK2=>by
       have h1:st2.s t= .lit v:=by rw [(hst t (.inl (by simp))).1,hv]
       simp only [a9e,hg,h1,hw,Bool.false_eq_true,if_false]
       cases hd:io.dst with
       | none=>
        rw [hd] at hK2
        simp only [a2o] at hK2 ⊢
        exact hK2 _ (fun u hu=>by simp at hu) (fun u _ _=>agr.refl _ _)
       | some d=>
        rw [hd] at hK2 hst
        simp only [a2o] at hK2 ⊢
        refine hK2 _ (fun u hu=> ?_) (fun u _ hn=>agr.putn _ (by rintro rfl; exact hn (by simp)))
        have:u=d:=by simpa using hu
        subst this
        exact (hst u (.inr (by simp))).put _ }
   ·exact h.elim
end
end Go.Ideal
end
