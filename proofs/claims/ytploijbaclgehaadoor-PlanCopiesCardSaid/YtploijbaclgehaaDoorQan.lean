/- Part Qan of the proof: walks on a machine that is proved sound. -/
import Derived.Test.YtploijbaclgehaaDoorQal
import Derived.Test.YtploijbaclgehaaDoorQah
set_option linter.unusedVariables false
set_option linter.unusedSimpArgs false
set_option maxRecDepth 200000
section
namespace Go.Ideal
def c7e (P:Program) (G:GG) (N:Nat) (aft:DA) (t:Nat) (d:Option Nat) (f:FuncId) (args:List (Bool×X)) (rest:List AO) (fps:List (List Nat×List Nat)) (K:St->Prop) (st:St) (o1 o2:Option St):Prop:=match o1,o2 with
 | some st1,some st2=>b9a P G N aft d f (a34 N args.length st2) (t::(d.toList++a0t st (args.map (·.2)))) rest fps K st st1 st2
 | _,_=>False
def c4x (P:Program) (G:GG) (N:Nat) (aft:DA) (t:Nat) (d:Option Nat) (f:FuncId) (args:List (Bool×X)) (rest:List AO) (fps:List (List Nat×List Nat)) (K:St->Prop) (st:St) (o1:Option St):Prop:=c7e P G N aft t d f args rest fps K st o1 (pss N (N+2) args o1)
def dGc (P:Program) (G:GG) (N:Nat) (aft:DA) (v:AV) (want:Bool) (t:Nat) (d:Option Nat) (f:FuncId) (args:List (Bool×X)) (rest:List AO) (fps:List (List Nat×List Nat)) (K:St->Prop) (st:St):Prop:=match v with
 | .lit v=>if b13 want v then c4x P G N aft t d f args rest fps K st (gvs N (N+2) args (some st)) else (∀ u∈t::d.toList,u < N)/\a6m aft.2 (a2c d st)/\a6n P G N aft rest (fps++[([t],d.toList)]) K (a2c d st)
 | _=>False
section
variable {P:Program} {G:GG} {N:Nat} {aft:DA} {d:Option Nat} {i:IOp} {rest:List AO} {fps:List (List Nat×List Nat)} {K:St->Prop} {st:St} {t:Nat} {f:FuncId} {args:List (Bool×X)}
@[go_sem] theorem e3r {T:TypeId} {s u:Nat} {x:X}:evS G N none (.stf T s x (.t u)) st=evS G N none (.store T s x (.t u)) (st.set u (frz (st.s u))):=(rfl)
@[go_sem] theorem f2h {w:Bool}:dGd P G N aft (.lit undef) w t d i rest fps K st=((∀ u∈t::d.toList,u < N)/\a6m aft.2 (a2c d st)/\a6n P G N aft rest (fps++[([t],d.toList)]) K (a2c d st)):=(rfl)
@[congr] theorem d1j {v v':AV} {w:Bool} (h:v=v'):dGc P G N aft v w t d f args rest fps K st=dGc P G N aft v' w t d f args rest fps K st:=by rw [h]
@[congr] theorem c7d {o o':Option St} (h:o=o'):c4x P G N aft t d f args rest fps K st o=c4x P G N aft t d f args rest fps K st o':=by rw [h]
@[congr] theorem c7f {o1 o o':Option St} (h:o=o'):c7e P G N aft t d f args rest fps K st o1 o=c7e P G N aft t d f args rest fps K st o1 o':=by rw [h]
@[go_sem] theorem d1h {st1:St}:c4x P G N aft t d f args rest fps K st (some st1)=c7e P G N aft t d f args rest fps K st (some st1) (pss N (N+2) args (some st1)):=(rfl)
@[go_sem] theorem d1i {st1 st2:St}:c7e P G N aft t d f args rest fps K st (some st1) (some st2)=b9a P G N aft d f (a34 N args.length st2) (t::(d.toList++a0t st (args.map (·.2)))) rest fps K st st1 st2:=(rfl)
@[go_sem] theorem e8t:dGc P G N aft (.lit (.bool true)) true t d f args rest fps K st=c4x P G N aft t d f args rest fps K st (gvs N (N+2) args (some st)):=(rfl)
@[go_sem] theorem e8q:dGc P G N aft (.lit (.bool false)) false t d f args rest fps K st=c4x P G N aft t d f args rest fps K st (gvs N (N+2) args (some st)):=(rfl)
@[go_sem] theorem e8s:dGc P G N aft (.lit (.bool true)) false t d f args rest fps K st=((∀ u∈t::d.toList,u < N)/\a6m aft.2 (a2c d st)/\a6n P G N aft rest (fps++[([t],d.toList)]) K (a2c d st)):=(rfl)
@[go_sem] theorem e8r:dGc P G N aft (.lit (.bool false)) true t d f args rest fps K st=((∀ u∈t::d.toList,u < N)/\a6m aft.2 (a2c d st)/\a6n P G N aft rest (fps++[([t],d.toList)]) K (a2c d st)):=(rfl)
@[go_sem] theorem f2g {w:Bool}:dGc P G N aft (.lit undef) w t d f args rest fps K st=((∀ u∈t::d.toList,u < N)/\a6m aft.2 (a2c d st)/\a6n P G N aft rest (fps++[([t],d.toList)]) K (a2c d st)):=(rfl)
@[go_sem] theorem c7j {j:Nat} {want:Bool} {tys:List TypeId}:a6n P G N aft (⟨d,.call f args tys,some (j,t,want)⟩::rest) fps K st=dGc P G N aft (st.s t) want t d f args rest fps K st:=by
 simp only [a6n,dGc]
 cases st.s t<;>try rfl
 rename_i v
 simp only [b9u,c4x,c7e,b9a]
 split
 ·cases gvs N (N+2) args (some st) with
  | none=>rfl
  | some st1=>
   simp only
   cases pss N (N+2) args (some st1)<;>rfl
 ·rfl
end
end Go.Ideal
end
