/- Part Qan of the proof: walks on a machine that is proved sound. -/
import Derived.Test.YtploijbaclgehaaDoorQal
import Derived.Test.YtploijbaclgehaaDoorQah
set_option linter.unusedVariables false
set_option linter.unusedSimpArgs false
set_option maxRecDepth 200000
section
namespace Go.Ideal
def c7t (P:Program) (G:GG) (N:Nat) (aft:DA) (t:Nat) (d:Option Nat) (f:FuncId) (args:List (Bool×X)) (rest:List AO) (fps:List (List Nat×List Nat)) (K:St->Prop) (st:St) (o1 o2:Option St):Prop:=match o1,o2 with
 | some st1,some st2=>b9n P G N aft d f (a37 N args.length st2) (t::(d.toList++a0s st (args.map (·.2)))) rest fps K st st1 st2
 | _,_=>False
def c5b (P:Program) (G:GG) (N:Nat) (aft:DA) (t:Nat) (d:Option Nat) (f:FuncId) (args:List (Bool×X)) (rest:List AO) (fps:List (List Nat×List Nat)) (K:St->Prop) (st:St) (o1:Option St):Prop:=c7t P G N aft t d f args rest fps K st o1 (pss N (N+2) args o1)
def dGc (P:Program) (G:GG) (N:Nat) (aft:DA) (v:AV) (want:Bool) (t:Nat) (d:Option Nat) (f:FuncId) (args:List (Bool×X)) (rest:List AO) (fps:List (List Nat×List Nat)) (K:St->Prop) (st:St):Prop:=match v with
 | .lit v=>if b2d want v then c5b P G N aft t d f args rest fps K st (gvs N (N+2) args (some st)) else (∀ u∈t::d.toList,u < N)/\a6t aft.2 (a2c d st)/\a6u P G N aft rest (fps++[([t],d.toList)]) K (a2c d st)
 | _=>False
section
variable {P:Program} {G:GG} {N:Nat} {aft:DA} {d:Option Nat} {i:IOp} {rest:List AO} {fps:List (List Nat×List Nat)} {K:St->Prop} {st:St} {t:Nat} {f:FuncId} {args:List (Bool×X)}
@[go_sem] theorem e4a {T:TypeId} {s u:Nat} {x:X}:evS G N none (.stf T s x (.t u)) st=evS G N none (.store T s x (.t u)) (st.set u (frz (st.s u))):=(rfl)
@[go_sem] theorem f21 {w:Bool}:dGd P G N aft (.lit undef) w t d i rest fps K st=((∀ u∈t::d.toList,u < N)/\a6t aft.2 (a2c d st)/\a6u P G N aft rest (fps++[([t],d.toList)]) K (a2c d st)):=(rfl)
@[congr] theorem d10 {v v':AV} {w:Bool} (h:v=v'):dGc P G N aft v w t d f args rest fps K st=dGc P G N aft v' w t d f args rest fps K st:=by rw [h]
@[congr] theorem c7s {o o':Option St} (h:o=o'):c5b P G N aft t d f args rest fps K st o=c5b P G N aft t d f args rest fps K st o':=by rw [h]
@[congr] theorem c7u {o1 o o':Option St} (h:o=o'):c7t P G N aft t d f args rest fps K st o1 o=c7t P G N aft t d f args rest fps K st o1 o':=by rw [h]
@[go_sem] theorem d1y {st1:St}:c5b P G N aft t d f args rest fps K st (some st1)=c7t P G N aft t d f args rest fps K st (some st1) (pss N (N+2) args (some st1)):=(rfl)
@[go_sem] theorem d1z {st1 st2:St}:c7t P G N aft t d f args rest fps K st (some st1) (some st2)=b9n P G N aft d f (a37 N args.length st2) (t::(d.toList++a0s st (args.map (·.2)))) rest fps K st st1 st2:=(rfl)
@[go_sem] theorem e9c:dGc P G N aft (.lit (.bool true)) true t d f args rest fps K st=c5b P G N aft t d f args rest fps K st (gvs N (N+2) args (some st)):=(rfl)
@[go_sem] theorem e89:dGc P G N aft (.lit (.bool false)) false t d f args rest fps K st=c5b P G N aft t d f args rest fps K st (gvs N (N+2) args (some st)):=(rfl)
@[go_sem] theorem e9b:dGc P G N aft (.lit (.bool true)) false t d f args rest fps K st=((∀ u∈t::d.toList,u < N)/\a6t aft.2 (a2c d st)/\a6u P G N aft rest (fps++[([t],d.toList)]) K (a2c d st)):=(rfl)
@[go_sem] theorem e9a:dGc P G N aft (.lit (.bool false)) true t d f args rest fps K st=((∀ u∈t::d.toList,u < N)/\a6t aft.2 (a2c d st)/\a6u P G N aft rest (fps++[([t],d.toList)]) K (a2c d st)):=(rfl)
@[go_sem] theorem f20 {w:Bool}:dGc P G N aft (.lit undef) w t d f args rest fps K st=((∀ u∈t::d.toList,u < N)/\a6t aft.2 (a2c d st)/\a6u P G N aft rest (fps++[([t],d.toList)]) K (a2c d st)):=(rfl)
@[go_sem] theorem c7y {j:Nat} {want:Bool} {tys:List TypeId}:a6u P G N aft (⟨d,.call f args tys,some (j,t,want)⟩::rest) fps K st=dGc P G N aft (st.s t) want t d f args rest fps K st:=by
 simp only [a6u,dGc]
 cases st.s t<;>try rfl
 rename_i v
 simp only [b98,c5b,c7t,b9n]
 split
 ·cases gvs N (N+2) args (some st) with
  | none=>rfl
  | some st1=>
   simp only
   cases pss N (N+2) args (some st1)<;>rfl
 ·rfl
end
end Go.Ideal
end
