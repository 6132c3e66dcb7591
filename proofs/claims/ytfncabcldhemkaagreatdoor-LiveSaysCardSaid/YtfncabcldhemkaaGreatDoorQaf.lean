/- Part Qaf of the proof: walks on a machine that is proved sound. -/
import Derived.Test.YtfncabcldhemkaaGreatDoorQae
set_option linter.unusedVariables false
set_option linter.unusedSimpArgs false
section
namespace Go.Ideal
section
variable {P:Program} {G:GG} {N:Nat} {aft:DA} {fps:List (List Nat×List Nat)} {K:St->Prop} {Q:Exit->St->Prop} {st:St} {d:Option Nat} {rest ios:List AO}
theorem a0b {aft:List (List Nat)} (h:a93 P G N (aft,[]) ios [] (Q .normal) st):AW P G N (.draw ios aft) Q st:=⟨[],(fun p hp=>by simp at hp),(fun p hp=>by simp at hp),a8i (aft:=(aft,[])) ios [] (Q .normal) st (fun p hp=>by simp at hp) h⟩
@[go_sem] theorem e56:a99 [] st=True:=by simp [a99]
@[congr] theorem d78 {V:List (Nat×Nat)} {st':St} (h:st=st'):a99 V st=a99 V st':=by rw [h]
theorem a0d {aft:List (List Nat)} {V:List (Nat×Nat)} (h:b5g aft fps=true) (h2:∀ s,(∀ t,t < N->s.s t=st.s t)->(∀ t,t < N->s.ep t=st.ep t)->K s):e9f N (aft,V) fps K st:=
 ⟨h,fun s hs=>h2 s (fun t ht=>(hs t ht).1) (fun t ht=>(hs t ht).2)⟩
@[congr] theorem d86 {ios':List AO} {fps':List (List Nat×List Nat)} {st':St} (h:ios=ios') (h2:fps=fps') (h3:st=st'):a93 P G N aft ios fps K st=a93 P G N aft ios' fps' K st':=by rw [h,h2,h3]
@[go_sem] theorem e6q:a93 P G N aft [] fps K st=e9f N aft fps K st:=(rfl)
def d2x (N:Nat):List Nat:=List.range N
def d1z (P:Program) (G:GG) (N:Nat) (aft:DA) (ex:List Nat) (d:Option Nat) (xs:List X) (rest:List AO) (fps:List (List Nat×List Nat)) (K:St->Prop) (st st':St):Prop:=
 (∀ t∈ex++(d.toList++a0r st xs),t < N)/\a99 aft.2 st'/\a93 P G N aft rest (fps++[(ex++d2x N,d2x N)]) K st'
def dE (P:Program) (G:GG) (N:Nat) (aft:DA) (ex:List Nat) (d:Option Nat) (i:IOp) (rest:List AO) (fps:List (List Nat×List Nat)) (K:St->Prop) (st:St) (o:Option (List X)) (e:Option St):Prop:=match o,e with
 | some xs,some st'=>d4l (d71 N st i) ((∀ t∈ex++(d.toList++a0r st xs),t < N)/\(∀ t∈Wop st d i,t < N)/\fr N (Wop st d i) st st'/\a99 aft.2 st'/\a93 P G N aft rest (fps++[(ex++(d.toList++b32 aft.2 st xs i),Wop st d i)]) K st') (d1z P G N aft ex d xs rest fps K st st')
 | _,_=>False
@[go_sem] theorem e9e {ex:List Nat} {i:IOp} {xs:List X} {st':St}:dE P G N aft ex d i rest fps K st (some xs) (some st')=d4l (d71 N st i) ((∀ t∈ex++(d.toList++a0r st xs),t < N)/\(∀ t∈Wop st d i,t < N)/\fr N (Wop st d i) st st'/\a99 aft.2 st'/\a93 P G N aft rest (fps++[(ex++(d.toList++b32 aft.2 st xs i),Wop st d i)]) K st') (d1z P G N aft ex d xs rest fps K st st'):=(rfl)
@[go_sem] theorem e9j {i:IOp}:a93 P G N aft (⟨d,.op i,none⟩::rest) fps K st=dE P G N aft [] d i rest fps K st (b3x i) (evS G N d i st):=by
 simp only [a93,d1h,dE]
 cases b3x i<;>cases evS G N d i st<;>rfl
def dGd (P:Program) (G:GG) (N:Nat) (aft:DA) (v:AV) (want:Bool) (t:Nat) (d:Option Nat) (i:IOp) (rest:List AO) (fps:List (List Nat×List Nat)) (K:St->Prop) (st:St):Prop:=match v with
 | .lit v=>if b8x want v then dE P G N aft [t] d i rest fps K st (b3x i) (evS G N d i st) else (∀ u∈t::d.toList,u < N)/\a99 aft.2 (a4j d st)/\a93 P G N aft rest (fps++[([t],d.toList)]) K (a4j d st)
 | _=>False
section
variable {t:Nat} {i:IOp}
@[congr] theorem e1r {v v':AV} {w:Bool} (h:v=v'):dGd P G N aft v w t d i rest fps K st=dGd P G N aft v' w t d i rest fps K st:=by rw [h]
@[go_sem] theorem f3z {j:Nat} {want:Bool}:a93 P G N aft (⟨d,.op i,some (j,t,want)⟩::rest) fps K st=dGd P G N aft (st.s t) want t d i rest fps K st:=by
 simp only [a93,dGd]
 cases st.s t<;>try rfl
@[go_sem] theorem f3y:dGd P G N aft (.lit (.bool true)) true t d i rest fps K st=dE P G N aft [t] d i rest fps K st (b3x i) (evS G N d i st):=(rfl)
@[go_sem] theorem f3v:dGd P G N aft (.lit (.bool false)) false t d i rest fps K st=dE P G N aft [t] d i rest fps K st (b3x i) (evS G N d i st):=(rfl)
@[go_sem] theorem f3x:dGd P G N aft (.lit (.bool true)) false t d i rest fps K st=((∀ u∈t::d.toList,u < N)/\a99 aft.2 (a4j d st)/\a93 P G N aft rest (fps++[([t],d.toList)]) K (a4j d st)):=(rfl)
@[go_sem] theorem f3w:dGd P G N aft (.lit (.bool false)) true t d i rest fps K st=((∀ u∈t::d.toList,u < N)/\a99 aft.2 (a4j d st)/\a93 P G N aft rest (fps++[([t],d.toList)]) K (a4j d st)):=(rfl)
end
def c50 (P:Program) (G:GG) (N:Nat) (aft:DA) (d:Option Nat) (f:FuncId) (pre:List AV) (rd:List Nat) (rest:List AO) (fps:List (List Nat×List Nat)) (K:St->Prop) (st st1 st2:St):Prop:=
 ∃ res W,ACalls P G f pre res/\a0p res=true/\(∀ t∈rd,t < N)/\(∀ t∈W,t < N)/\fr N W st (b4j (if a1l res then st1 else st2) N d res)/\a99 aft.2 (b4j (if a1l res then st1 else st2) N d res)/\a93 P G N aft rest (fps++[(rd,W)]) K (b4j (if a1l res then st1 else st2) N d res)
def d8x (P:Program) (G:GG) (N:Nat) (aft:DA) (d:Option Nat) (f:FuncId) (args:List (Bool×X)) (rest:List AO) (fps:List (List Nat×List Nat)) (K:St->Prop) (st:St) (o1 o2:Option St):Prop:=match o1,o2 with
 | some st1,some st2=>c50 P G N aft d f (a61 N args.length st2) (d.toList++a0r st (args.map (·.2))) rest fps K st st1 st2
 | _,_=>False
def e1m (P:Program) (G:GG) (N:Nat) (aft:DA) (d:Option Nat) (f:FuncId) (args:List (Bool×X)) (rest:List AO) (fps:List (List Nat×List Nat)) (K:St->Prop) (st:St) (o1:Option St):Prop:=d8x P G N aft d f args rest fps K st o1 (pss N (N+2) args o1)
section
variable {f:FuncId} {args:List (Bool×X)}
@[congr] theorem d8w {o o':Option St} (h:o=o'):e1m P G N aft d f args rest fps K st o=e1m P G N aft d f args rest fps K st o':=by rw [h]
@[congr] theorem d8y {o1 o o':Option St} (h:o=o'):d8x P G N aft d f args rest fps K st o1 o=d8x P G N aft d f args rest fps K st o1 o':=by rw [h]
@[congr] theorem d8v {pre pre':List AV} {rd rd':List Nat} {st1 st2:St} (h:pre=pre') (h2:rd=rd'):c50 P G N aft d f pre rd rest fps K st st1 st2=c50 P G N aft d f pre' rd' rest fps K st st1 st2:=by rw [h,h2]
@[go_sem] theorem e1n {st1:St}:e1m P G N aft d f args rest fps K st (some st1)=d8x P G N aft d f args rest fps K st (some st1) (pss N (N+2) args (some st1)):=(rfl)
@[go_sem] theorem e1o {st1 st2:St}:d8x P G N aft d f args rest fps K st (some st1) (some st2)=c50 P G N aft d f (a61 N args.length st2) (d.toList++a0r st (args.map (·.2))) rest fps K st st1 st2:=(rfl)
@[go_sem] theorem e1s {tys:List TypeId}:a93 P G N aft (⟨d,.call f args tys,none⟩::rest) fps K st=e1m P G N aft d f args rest fps K st (gvs N (N+2) args (some st)):=by
 simp only [a93,d1h,e1m,d8x,c50]
 cases gvs N (N+2) args (some st) with
 | none=>rfl
 | some st1=>
  simp only
  cases pss N (N+2) args (some st1)<;>rfl
theorem a0m {pre:List AV} {rd:List Nat} {st1 st2:St} {res:AV} (hA:ACalls P G f pre res) (hn:a0p res=true) (hi:a1l res=true) (hrd:∀ t∈rd,t < N) (W:List Nat) (hW:∀ t∈W,t < N) (hf:fr N W st (b4j st1 N d res)) (h:a99 aft.2 (b4j st1 N d res)/\a93 P G N aft rest (fps++[(rd,W)]) K (b4j st1 N d res)):c50 P G N aft d f pre rd rest fps K st st1 st2:=
 ⟨res,W,hA,hn,hrd,hW,by rw [hi]; exact hf,by rw [hi]; exact h⟩
theorem b3i {pre:List AV} {rd:List Nat} {st1 st2:St} {res:AV} (hA:ACalls P G f pre res) (hn:a0p res=true) (hi:a1l res=false) (hrd:∀ t∈rd,t < N) (W:List Nat) (hW:∀ t∈W,t < N) (hf:fr N W st (b4j st2 N d res)) (h:a99 aft.2 (b4j st2 N d res)/\a93 P G N aft rest (fps++[(rd,W)]) K (b4j st2 N d res)):c50 P G N aft d f pre rd rest fps K st st1 st2:=
 ⟨res,W,hA,hn,hrd,hW,by rw [hi]; exact hf,by rw [hi]; exact h⟩
end
section
variable {W:List Nat} {st1:St} {t:Nat} {v:AV}
def frI (b:Bool) (p q:Prop):Prop:=if b then p else q
@[congr] theorem e2w {b b':Bool} {p q:Prop} (h:b=b'):frI b p q=frI b' p q:=by rw [h]
@[go_sem] theorem f58 {p q:Prop}:frI true p q=p:=by simp [frI]
def frX (N:Nat) (W:List Nat) (st st':St):Prop:=fr N W st st'
@[go_sem] theorem e97:fr N W st st=True:=by simp [fr,agr.refl]
theorem d2v {st2 st3:St} (h:∀ u,u < N->u ∉ W->agr st2 st3 u):fr N W st st2=fr N W st st3:=by
 apply propext
 constructor
 ·intro h2 u hu hw; exact (h2 u hu hw).trans (h u hu hw)
 ·intro h2 u hu hw; exact (h2 u hu hw).trans (h u hu hw).symm
@[go_sem] theorem f4j:fr N W st (st1.put t v)=frI (W.contains t||decide (N<=t)) (fr N W st st1) (frX N W st (st1.put t v)):=by
 simp only [frI,frX]
 split
 ·rename_i h
  refine d2v fun u hu hw=>(agr.putn v ?_).symm
  rintro rfl
  simp at h
  rcases h with h | h
  ·exact hw h
  ·omega
 ·rfl
@[go_sem] theorem f4k:fr N W st (st1.set t v)=frI (W.contains t||decide (N<=t)) (fr N W st st1) (frX N W st (st1.set t v)):=by
 simp only [frI,frX]
 split
 ·rename_i h
  refine d2v fun u hu hw=>(agr.setn v ?_).symm
  rintro rfl
  simp at h
  rcases h with h | h
  ·exact hw h
  ·omega
 ·rfl
@[go_sem] theorem e98 {M:Nat}:fr N W st (st1.thru M t v)=frI ((W.contains t||decide (N<=t))&&decide (N<=M)) (fr N W st st1) (frX N W st (st1.thru M t v)):=by
 simp only [frI,frX]
 split
 ·rename_i h
  simp only [Bool.and_eq_true,Bool.or_eq_true,decide_eq_true_eq,List.contains_iff_mem] at h
  refine d2v fun u hu hw=> ?_
  have h1:u≠M:=by omega
  have h2:u≠t:=by
   rintro rfl
   rcases h.1 with h | h
   ·exact hw h
   ·omega
  exact (((agr.putn v h1).trans (agr.putn _ h1)).trans (agr.putn v h2)).symm
 ·rfl
@[go_sem] theorem e67:fr N W st (st1.clear N)=fr N W st st1:=by
 refine d2v fun u hu _=> ?_
 simp [agr,St.clear,hu]
end
end
@[go_sem] theorem f31 {p q:Prop}:d4l true p q=p:=by simp [d4l]
section
variable {P:Program} {G:GG} {N:Nat} {aft:DA} {fps:List (List Nat×List Nat)} {K:St->Prop} {st st':St} {d:Option Nat} {rest:List AO} {ex:List Nat} {xs:List X}
@[go_sem] theorem f30 {p:Prop}:d4l false p (d1z P G N aft ex d xs rest fps K st st')=((∀ t∈ex++(d.toList++a0r st xs),t < N)/\a99 aft.2 st'/\a93 P G N aft rest (fps++[(ex++d2x N,d2x N)]) K st'):=by simp only [d4l,d1z,Bool.false_eq_true,if_false]
end
@[go_sem] theorem e8k {st:St} {xs:List X} {i:IOp}:b32 [] st xs i=a0r st xs:=by unfold b32; split<;>simp
section
variable {V:List (Nat×Nat)} {st:St} {xs:List X}
@[go_sem] theorem e8e {z0:X}:b32 V st xs (.asg z0)=a0r st xs:=(rfl)
@[go_sem] theorem e4v {z0:X} {z1:X} {z2:X}:b32 V st xs (.pick z0 z1 z2)=a0r st xs:=(rfl)
@[go_sem] theorem d92 {z0:TypeId} {z1:List AV}:b32 V st xs (.alloc z0 z1)=a0r st xs:=(rfl)
@[go_sem] theorem e8g {z0:TypeId} {z1:Nat} {z2:X}:b32 V st xs (.box z0 z1 z2)=a0r st xs:=(rfl)
@[go_sem] theorem d93 {z0:TypeId} {z1:List AV} {z2:List (Nat×Nat×Nat×X)}:b32 V st xs (.build z0 z1 z2)=a0r st xs:=(rfl)
@[go_sem] theorem d64 {z0:TypeId} {z1:TypeId} {z2:Nat} {z3:Nat} {z4:List AV} {z5:List (Nat×X)}:b32 V st xs (.bslice z0 z1 z2 z3 z4 z5)=a0r st xs:=(rfl)
@[go_sem] theorem e4t {z0:TypeId} {z1:Option Nat} {z2:X}:b32 V st xs (.load z0 z1 z2)=a0r st xs:=(rfl)
@[go_sem] theorem d98 {z0:TypeId} {z1:Nat} {z2:X} {z3:X}:b32 V st xs (.store z0 z1 z2 z3)=a0r st xs:=(rfl)
@[go_sem] theorem d96 {z0:X}:b32 V st xs (.nilck z0)=a0r st xs:=(rfl)
@[go_sem] theorem e8f {z0:BinOp} {z1:TypeId} {z2:Nat} {z3:X} {z4:X} {z5:TypeId}:b32 V st xs (.bin z0 z1 z2 z3 z4 z5)=a0r st xs:=(rfl)
@[go_sem] theorem f2a {z0:UnOp} {z1:TypeId} {z2:X}:b32 V st xs (.un z0 z1 z2)=a0r st xs:=(rfl)
@[go_sem] theorem e8j {z0:TypeId} {z1:X}:b32 V st xs (.mki z0 z1)=a0r st xs:=(rfl)
@[go_sem] theorem d97 {z0:TypeId} {z1:Nat} {z2:X} {z3:Option X} {z4:Option X} {z5:Option X}:b32 V st xs (.slice z0 z1 z2 z3 z4 z5)=a0r st xs:=(rfl)
@[go_sem] theorem d94 {z0:TypeId} {z1:Nat} {z2:X} {z3:Nat}:b32 V st xs (.faddr z0 z1 z2 z3)=a0r st xs:=(rfl)
@[go_sem] theorem d95 {z0:TypeId} {z1:Nat} {z2:X} {z3:X}:b32 V st xs (.iaddr z0 z1 z2 z3)=a0r st xs:=(rfl)
@[go_sem] theorem e4u {z0 z1:Nat} {z2 z3 z4:X}:b32 V st xs (.mset z0 z1 z2 z3 z4)=a0r st xs:=(rfl)
@[go_sem] theorem e8h {z0:X} {z1:Nat}:b32 V st xs (.ext z0 z1)=a0r st xs:=(rfl)
@[go_sem] theorem e8i {z0:TypeId} {z1:Bool} {z2:X}:b32 V st xs (.len z0 z1 z2)=a0r st xs:=(rfl)
@[go_sem] theorem e8d {z0:TypeId} {z1:TypeId} {z2:Nat} {z3:Nat} {z4:X} {z5:X}:b32 V st xs (.app z0 z1 z2 z3 z4 z5)=a0r st xs:=(rfl)
@[go_sem] theorem f19 {z0:Bool} {z1:List TypeId} {z2:List X}:b32 V st xs (.mm z0 z1 z2)=a0r st xs:=(rfl)
end
section
variable {v:Value} {n sz o t lo e':Nat} {ks a c:List AV} {q:List Nat} {T:TypeId} {k:AV} {f:FuncId}
@[go_sem] theorem d8h:a3z (.lit v)=none:=(rfl)
@[go_sem] theorem e05:a3z (.sl n ks)=none:=(rfl)
@[go_sem] theorem e04:a3z (.ip ks o)=none:=(rfl)
@[go_sem] theorem d8i:a3z (.own sz n ks)=none:=(rfl)
@[go_sem] theorem d8l:a3z (.var ks)=none:=(rfl)
@[go_sem] theorem d8e:a3z (.agg ks)=none:=(rfl)
@[go_sem] theorem d8k:a3z (.tup ks)=none:=(rfl)
@[go_sem] theorem d8g:a3z (.ifc T k)=none:=(rfl)
@[go_sem] theorem d8j:a3z (.ref t q o e')=some t:=(rfl)
@[go_sem] theorem d8f:a3z (.bor t q lo n e')=some t:=(rfl)
end
attribute [go_sem] b3x a0r a3e slL slX Wop wrE Option.toList_some Option.toList_none d71 List.forall_mem_cons
end Go.Ideal
end
