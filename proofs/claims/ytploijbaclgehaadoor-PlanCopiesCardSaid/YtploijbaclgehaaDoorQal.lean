/- Part Qal of the proof: walks on a machine that is proved sound. -/
import Derived.Test.YtploijbaclgehaaDoorQah
import Derived.Test.YtploijbaclgehaaDoorQak
import Derived.Test.YtploijbaclgehaaDoorQag
set_option linter.unusedVariables false
set_option linter.unusedSimpArgs false
set_option maxRecDepth 10000
section
namespace Go.Ideal
section
variable {G:GG} {N d:Nat} {st:St}
@[go_sem] theorem d2k {T:TypeId}:evS G N (some d) (.mkmap T) st=some (st.thru N d (.mp [] [])):=(rfl)
def c8l (v:AV):Option Int:=match v with
 | .lit (.int .i64 n)=>some n
 | _=>none
@[go_sem] theorem d9q {n:Int}:c8l (.lit (.int .i64 n))=some n:=(rfl)
theorem b8i (x:X):(c5s x).run st=(c8l (rdv st x)).map fun n=>(n,st):=by
 simp only [c5s,Ev.run_bind,a4q,Option.bind]
 cases rdv st x<;>try rfl
 rename_i v; cases v<;>try rfl
 rename_i k n; cases k<;>rfl
def mpK (t:Nat) (q:List Nat) (k:Option AV):Option (Nat×List Nat×List Int×List AV):=match k with
 | some (.mp keys vals)=>some (t,q,keys,vals)
 | _=>none
@[congr] theorem d4i {t:Nat} {q:List Nat} {k k':Option AV} (h:k=k'):mpK t q k=mpK t q k':=by rw [h]
@[go_sem] theorem f05 {t:Nat} {q:List Nat} {keys:List Int} {vals:List AV}:mpK t q (some (.mp keys vals))=some (t,q,keys,vals):=(rfl)
def mpO (st:St) (v:AV):Option (Nat×List Nat×List Int×List AV):=match v with
 | .bor t q _ _ e=>mpK t q (a1j st t q e)
 | _=>none
@[congr] theorem d4j {v v':AV} (h:v=v'):mpO st v=mpO st v':=by rw [h]
@[go_sem] theorem e52 {t lo n e:Nat} {q:List Nat}:mpO st (.bor t q lo n e)=mpK t q (a1j st t q e):=(rfl)
theorem b8j (x:X):(c52 x).run st=(mpO st (rdv st x)).map fun r=>((r.1,r.2.1,st.s r.1,r.2.2.1,r.2.2.2),st):=by
 simp only [c52,Ev.run_bind,a0n,Option.bind]
 cases hv:rdv st x<;>try rfl
 rename_i t q lo n e
 simp only [mpO,Ev.run_bind,a07,Option.bind]
 by_cases he:e=st.ep t
 ·simp only [he,beq_self_eq_true,a0f,if_true,Ev.run,a0q,Option.bind,b4s]
  cases hk:a0c (st.s t) q with
  | none=>rfl
  | some k=>cases k<;>rfl
 ·have:(e==st.ep t)=false:=by simpa using he
  simp only [this,a0f,Bool.false_eq_true,if_false,Ev.run,b4r he]
  rfl
def mgR (st:St) (d:Nat) (zs:List AV) (r:Option AV):Option St:=match r with
 | some v=>iO (a0j v) (some (st.put d (.tup [v,.lit (.bool true)]))) none
 | none=>iO (a0k zs) (some (st.put d (.tup [.agg zs,.lit (.bool false)]))) none
@[congr] theorem d4d {zs:List AV} {r r':Option AV} (h:r=r'):mgR st d zs r=mgR st d zs r':=by rw [h]
@[go_sem] theorem e0d {zs:List AV} {v:AV}:mgR st d zs (some v)=iO (a0j v) (some (st.put d (.tup [v,.lit (.bool true)]))) none:=(rfl)
@[go_sem] theorem e0c {zs:List AV}:mgR st d zs none=iO (a0k zs) (some (st.put d (.tup [.agg zs,.lit (.bool false)]))) none:=(rfl)
def mgS (st:St) (d:Nat) (zs:List AV) (m:Option (Nat×List Nat×List Int×List AV)) (n:Option Int):Option St:=match m,n with
 | some (_,_,keys,vals),some n=>mgR st d zs (a36 keys vals n)
 | _,_=>none
@[congr] theorem d4e {zs:List AV} {m m':Option (Nat×List Nat×List Int×List AV)} {n n':Option Int} (h:m=m') (h2:n=n'):mgS st d zs m n=mgS st d zs m' n':=by rw [h,h2]
@[go_sem] theorem e0e {zs:List AV} {t:Nat} {q:List Nat} {keys:List Int} {vals:List AV} {n:Int}:mgS st d zs (some (t,q,keys,vals)) (some n)=mgR st d zs (a36 keys vals n):=(rfl)
@[go_sem] theorem d88 {T e:TypeId} {zs:List AV} {x k:X}:evS G N (some d) (.mget T e zs x k) st=mgS st d zs (mpO st (rdv st x)) (c8l (rdv st k)):=by
 simp only [evS,a0w,Ev.run_bind,b8j,Option.bind]
 cases mpO st (rdv st x) with
 | none=>rfl
 | some r=>
  obtain ⟨t,q,keys,vals⟩:=r
  simp only [Option.map,b8i]
  cases c8l (rdv st k) with
  | none=>rfl
  | some n=>
   simp only [mgS,mgR]
   cases a36 keys vals n with
   | none=>
    simp only [Ev.run_bind,a0d,Option.bind]
    cases a0k zs<;>rfl
   | some v=>
    simp only [Ev.run_bind,a0d,Option.bind]
    cases a0j v<;>rfl
def msS (st:St) (N:Nat) (m:Option (Nat×List Nat×List Int×List AV)) (n:Option Int) (v:AV):Option St:=match m,n with
 | some (t,q,keys,vals),some n=>iO (b03 v&&decide (t < N)) (some (st.set t (a0h (st.s t) q (.mp (a28 keys vals n v).1 (a28 keys vals n v).2)))) none
 | _,_=>none
@[congr] theorem d4k {m m':Option (Nat×List Nat×List Int×List AV)} {n n':Option Int} {v v':AV} (h:m=m') (h2:n=n') (h3:v=v'):msS st N m n v=msS st N m' n' v':=by rw [h,h2,h3]
@[go_sem] theorem e0h {t:Nat} {q:List Nat} {keys:List Int} {vals:List AV} {n:Int} {v:AV}:msS st N (some (t,q,keys,vals)) (some n) v=iO (b03 v&&decide (t < N)) (some (st.set t (a0h (st.s t) q (.mp (a28 keys vals n v).1 (a28 keys vals n v).2)))) none:=(rfl)
@[go_sem] theorem d89 {T e:TypeId} {x k v:X}:evS G N none (.mset T e x k v) st=msS st N (mpO st (rdv st x)) (c8l (rdv st k)) (rdv st v):=by
 simp only [evS,a0w,Ev.run_bind,a0f,Option.isNone_none,if_true,Ev.run,Option.bind,b8j]
 cases mpO st (rdv st x) with
 | none=>rfl
 | some r=>
  obtain ⟨t,q,keys,vals⟩:=r
  simp only [Option.map,b8i]
  cases c8l (rdv st k) with
  | none=>rfl
  | some n=>
   simp only [msS,a0n,Ev.run_bind,a0d,Option.bind]
   cases b03 (rdv st v)&&decide (t < N)<;>rfl
def lnF (st:St) (d:Nat) (l:Option (List AV)):Option St:=match l with
 | some l=>some (st.put d (.loan l))
 | none=>none
@[congr] theorem d37 {l l':Option (List AV)} (h:l=l'):lnF st d l=lnF st d l':=by rw [h]
@[go_sem] theorem d98 {l:List AV}:lnF st d (some l)=some (st.put d (.loan l)):=(rfl)
def lnS (st:St) (N d sz:Nat) (r:Option (Nat×List Nat×Nat×List AV)):Option St:=match r with
 | some (t,q,o,ks)=>gO (o+sz<=ks.length/\t < N) (lnF st d (b11 t q (st.ep t) o ((ks.drop o).take sz)))
 | none=>none
@[congr] theorem d38 {sz:Nat} {r r':Option (Nat×List Nat×Nat×List AV)} (h:r=r'):lnS st N d sz r=lnS st N d sz r':=by rw [h]
@[go_sem] theorem d99 {sz t o:Nat} {q:List Nat} {ks:List AV}:lnS st N d sz (some (t,q,o,ks))=gO (o+sz<=ks.length/\t < N) (lnF st d (b11 t q (st.ep t) o ((ks.drop o).take sz))):=(rfl)
@[go_sem] theorem d86 {T sz:Nat} {x:X}:evS G N (some d) (.lend T sz x) st=lnS st N d sz (a5k st x (rdv st x)):=by
 simp only [evS,a0w,Ev.run_bind,a5m,Option.bind]
 cases a5k st x (rdv st x) with
 | none=>rfl
 | some r=>
  obtain ⟨t,q,o,ks⟩:=r
  simp only [Option.map,Ev.run_bind,a0d,Option.bind,lnS,gO]
  by_cases h:o+sz<=ks.length/\t < N
  ·obtain ⟨h1,h2⟩:=h
   simp only [h1,h2,decide_true,Bool.and_self,if_true,and_self,a0q]
   cases b11 t q (st.ep t) o (List.take sz (List.drop o ks))<;>rfl
  ·have:(decide (o+sz<=ks.length)&&decide (t < N))=false:=by
    rw [Bool.eq_false_iff]; intro hh
    simp only [Bool.and_eq_true,decide_eq_true_eq] at hh
    exact h hh
   simp only [this,Bool.false_eq_true,if_false,if_neg h]
end
section
variable (P:Program) (G:GG) (N:Nat) (aft:DA)
def b8q (ex:List Nat) (d:Option Nat) (f:FuncId) (args:List (Bool×X)) (rest:List AO) (fps:List (List Nat×List Nat)) (K:St->Prop) (st:St) (o1 o2:Option St):Prop:=match o1,o2 with
 | some st1,some st2=>b9n P G N aft d f (a37 N args.length st2) (ex++(d.toList++a0s st (args.map (·.2)))) rest fps K st st1 st2
 | _,_=>False
def b6m (ex:List Nat) (d:Option Nat) (f:FuncId) (args:List (Bool×X)) (rest:List AO) (fps:List (List Nat×List Nat)) (K:St->Prop) (st:St) (o1:Option St):Prop:=b8q P G N aft ex d f args rest fps K st o1 (pss N (N+2) args o1)
def c30 (v:AV) (want:Bool) (t:Nat) (d:Option Nat) (f:FuncId) (args:List (Bool×X)) (rest:List AO) (fps:List (List Nat×List Nat)) (K:St->Prop) (st:St):Prop:=match v with
 | .lit v=>if b2d want v then b6m P G N aft [t] d f args rest fps K st (gvs N (N+2) args (some st)) else (∀ u∈t::d.toList,u < N)/\a6t aft.2 (a2c d st)/\a6u P G N aft rest (fps++[([t],d.toList)]) K (a2c d st)
 | _=>False
end
section
variable {P:Program} {G:GG} {N:Nat} {aft:DA} {fps:List (List Nat×List Nat)} {K:St->Prop} {st:St} {d:Option Nat} {rest:List AO} {t:Nat} {f:FuncId} {args:List (Bool×X)} {ex:List Nat}
@[congr] theorem c7v {v v':AV} {w:Bool} (h:v=v'):c30 P G N aft v w t d f args rest fps K st=c30 P G N aft v' w t d f args rest fps K st:=by rw [h]
@[congr] theorem c49 {o o':Option St} (h:o=o'):b6m P G N aft ex d f args rest fps K st o=b6m P G N aft ex d f args rest fps K st o':=by rw [h]
@[congr] theorem c5a {o1 o o':Option St} (h:o=o'):b8q P G N aft ex d f args rest fps K st o1 o=b8q P G N aft ex d f args rest fps K st o1 o':=by rw [h]
@[go_sem] theorem c7q {st1:St}:b6m P G N aft ex d f args rest fps K st (some st1)=b8q P G N aft ex d f args rest fps K st (some st1) (pss N (N+2) args (some st1)):=(rfl)
@[go_sem] theorem c7r {st1 st2:St}:b8q P G N aft ex d f args rest fps K st (some st1) (some st2)=b9n P G N aft d f (a37 N args.length st2) (ex++(d.toList++a0s st (args.map (·.2)))) rest fps K st st1 st2:=(rfl)
@[go_sem] theorem e3e {j:Nat} {want:Bool} {tys:List TypeId}:a6u P G N aft (⟨d,.call f args tys,some (j,t,want)⟩::rest) fps K st=c30 P G N aft (st.s t) want t d f args rest fps K st:=by
 simp only [a6u,c30]
 cases st.s t<;>try rfl
 simp only [b98,b6m,b8q,b9n]
 split
 ·cases gvs N (N+2) args (some st) with
  | none=>rfl
  | some st1=>
   simp only
   cases pss N (N+2) args (some st1)<;>rfl
 ·rfl
@[go_sem] theorem e3d:c30 P G N aft (.lit (.bool true)) true t d f args rest fps K st=b6m P G N aft [t] d f args rest fps K st (gvs N (N+2) args (some st)):=(rfl)
@[go_sem] theorem e3a:c30 P G N aft (.lit (.bool false)) false t d f args rest fps K st=b6m P G N aft [t] d f args rest fps K st (gvs N (N+2) args (some st)):=(rfl)
@[go_sem] theorem e3c:c30 P G N aft (.lit (.bool true)) false t d f args rest fps K st=((∀ u∈t::d.toList,u < N)/\a6t aft.2 (a2c d st)/\a6u P G N aft rest (fps++[([t],d.toList)]) K (a2c d st)):=(rfl)
@[go_sem] theorem e3b:c30 P G N aft (.lit (.bool false)) true t d f args rest fps K st=((∀ u∈t::d.toList,u < N)/\a6t aft.2 (a2c d st)/\a6u P G N aft rest (fps++[([t],d.toList)]) K (a2c d st)):=(rfl)
end
end Go.Ideal
end
section
namespace Go.Ideal.Tryd
attribute [local go_sem] eD
structure Lk where
 ord:List Int
 descs:List Ds
 hin:Ds
 ws:List Ds
 input:Bool
 keys:List Int
 vals:List Ds
section
variable {G:GG} {bk:Nat->Nat×Nat} {Q:Exit->St->Prop} {st:St}
end
end Go.Ideal.Tryd
end
