/- Part Qag of the proof: walks on a machine that is proved sound. -/
import Derived.Test.YtlemfkimffoiiaaDoorQaf
set_option linter.unusedVariables false
set_option linter.unusedSimpArgs false
section
namespace Go.Ideal
section
variable {P:Program} {G:GG} {N:Nat} {aft:DA} {fps:List (List Nat×List Nat)} {K:St->Prop} {Q:Exit->St->Prop} {st:St} {d:Option Nat} {rest ios:List AO}
theorem a0b {aft:List (List Nat)} (h:a55 P G N (aft,[]) ios [] (Q .normal) st):AW P G N (.draw ios aft) Q st:=⟨[],(fun p hp=>by simp at hp),(fun p hp=>by simp at hp),a6b (aft:=(aft,[])) ios [] (Q .normal) st (fun p hp=>by simp at hp) h⟩
theorem b5f {aft:List (List Nat)} (V:List (Nat×Nat)) (hN:∀ p∈V,p.1 < N) (hI:a54 V st) (h:a55 P G N (aft,V) ios [] (Q .normal) st):AW P G N (.draw ios aft) Q st:=⟨V,hN,hI,a6b (aft:=(aft,V)) ios [] (Q .normal) st hI h⟩
@[go_sem] theorem e4z:a54 [] st=True:=by simp [a54]
@[go_sem] theorem d7f {t e:Nat} {V:List (Nat×Nat)}:a54 ((t,e)::V) st=(b7x (st.s t)=true/\st.ep t=e/\a54 V st):=by
 apply propext
 constructor
 ·intro h; exact ⟨(h (t,e) (by simp)).1,(h (t,e) (by simp)).2,fun p hp=>h p (by simp [hp])⟩
 ·rintro ⟨h1,h2,h3⟩ p hp
  rcases List.mem_cons.1 hp with rfl | hp
  ·exact ⟨h1,h2⟩
  ·exact h3 p hp
@[go_sem] theorem d5m {ks:List AV}:b7x (.var ks)=true:=(rfl)
@[congr] theorem d3x {V:List (Nat×Nat)} {st':St} (h:st=st'):a54 V st=a54 V st':=by rw [h]
theorem a0d {aft:List (List Nat)} {V:List (Nat×Nat)} (h:b4i aft fps=true) (h2:∀ s,(∀ t,t < N->s.s t=st.s t)->(∀ t,t < N->s.ep t=st.ep t)->K s):e93 N (aft,V) fps K st:=
 ⟨h,fun s hs=>h2 s (fun t ht=>(hs t ht).1) (fun t ht=>(hs t ht).2)⟩
@[congr] theorem d4y {ios':List AO} {fps':List (List Nat×List Nat)} {st':St} (h:ios=ios') (h2:fps=fps') (h3:st=st'):a55 P G N aft ios fps K st=a55 P G N aft ios' fps' K st':=by rw [h,h2,h3]
@[go_sem] theorem e5t:a55 P G N aft [] fps K st=e93 N aft fps K st:=(rfl)
def c8r (N:Nat):List Nat:=List.range N
def c7r (P:Program) (G:GG) (N:Nat) (aft:DA) (ex:List Nat) (d:Option Nat) (xs:List X) (rest:List AO) (fps:List (List Nat×List Nat)) (K:St->Prop) (st st':St):Prop:=
 (∀ t∈ex++(d.toList++a0v st xs),t < N)/\a54 aft.2 st'/\a55 P G N aft rest (fps++[(ex++c8r N,c8r N)]) K st'
def dE (P:Program) (G:GG) (N:Nat) (aft:DA) (ex:List Nat) (d:Option Nat) (i:IOp) (rest:List AO) (fps:List (List Nat×List Nat)) (K:St->Prop) (st:St) (o:Option (List X)) (e:Option St):Prop:=match o,e with
 | some xs,some st'=>c6y (d67 N st i) ((∀ t∈ex++(d.toList++a0v st xs),t < N)/\(∀ t∈Wop st d i,t < N)/\fr N (Wop st d i) st st'/\a54 aft.2 st'/\a55 P G N aft rest (fps++[(ex++(d.toList++a56 aft.2 st xs i),Wop st d i)]) K st') (c7r P G N aft ex d xs rest fps K st st')
 | _,_=>False
@[congr] theorem e5s {ex:List Nat} {i:IOp} {o o':Option (List X)} {e e':Option St} (h:o=o') (h2:e=e'):dE P G N aft ex d i rest fps K st o e=dE P G N aft ex d i rest fps K st o' e':=by rw [h,h2]
@[go_sem] theorem e92 {ex:List Nat} {i:IOp} {xs:List X} {st':St}:dE P G N aft ex d i rest fps K st (some xs) (some st')=c6y (d67 N st i) ((∀ t∈ex++(d.toList++a0v st xs),t < N)/\(∀ t∈Wop st d i,t < N)/\fr N (Wop st d i) st st'/\a54 aft.2 st'/\a55 P G N aft rest (fps++[(ex++(d.toList++a56 aft.2 st xs i),Wop st d i)]) K st') (c7r P G N aft ex d xs rest fps K st st'):=(rfl)
@[go_sem] theorem e99 {i:IOp}:a55 P G N aft (⟨d,.op i,none⟩::rest) fps K st=dE P G N aft [] d i rest fps K st (b0o i) (evS G N d i st):=by
 simp only [a55,c4j,dE]
 cases b0o i<;>cases evS G N d i st<;>rfl
def dGd (P:Program) (G:GG) (N:Nat) (aft:DA) (v:AV) (want:Bool) (t:Nat) (d:Option Nat) (i:IOp) (rest:List AO) (fps:List (List Nat×List Nat)) (K:St->Prop) (st:St):Prop:=match v with
 | .lit v=>if b3y want v then dE P G N aft [t] d i rest fps K st (b0o i) (evS G N d i st) else (∀ u∈t::d.toList,u < N)/\a54 aft.2 (a2v d st)/\a55 P G N aft rest (fps++[([t],d.toList)]) K (a2v d st)
 | _=>False
section
variable {t:Nat} {i:IOp}
@[congr] theorem d81 {v v':AV} {w:Bool} (h:v=v'):dGd P G N aft v w t d i rest fps K st=dGd P G N aft v' w t d i rest fps K st:=by rw [h]
@[go_sem] theorem f7e {j:Nat} {want:Bool}:a55 P G N aft (⟨d,.op i,some (j,t,want)⟩::rest) fps K st=dGd P G N aft (st.s t) want t d i rest fps K st:=by
 simp only [a55,dGd]
 cases st.s t<;>try rfl
@[go_sem] theorem f7d:dGd P G N aft (.lit (.bool true)) true t d i rest fps K st=dE P G N aft [t] d i rest fps K st (b0o i) (evS G N d i st):=(rfl)
@[go_sem] theorem f7a:dGd P G N aft (.lit (.bool false)) false t d i rest fps K st=dE P G N aft [t] d i rest fps K st (b0o i) (evS G N d i st):=(rfl)
@[go_sem] theorem f7c:dGd P G N aft (.lit (.bool true)) false t d i rest fps K st=((∀ u∈t::d.toList,u < N)/\a54 aft.2 (a2v d st)/\a55 P G N aft rest (fps++[([t],d.toList)]) K (a2v d st)):=(rfl)
@[go_sem] theorem f7b:dGd P G N aft (.lit (.bool false)) true t d i rest fps K st=((∀ u∈t::d.toList,u < N)/\a54 aft.2 (a2v d st)/\a55 P G N aft rest (fps++[([t],d.toList)]) K (a2v d st)):=(rfl)
end
def c1i (P:Program) (G:GG) (N:Nat) (aft:DA) (d:Option Nat) (f:FuncId) (pre:List AV) (rd:List Nat) (rest:List AO) (fps:List (List Nat×List Nat)) (K:St->Prop) (st st1 st2:St):Prop:=
 ∃ res W,ACalls P G f pre res/\noRef res=true/\(∀ t∈rd,t < N)/\(∀ t∈W,t < N)/\fr N W st (a85 (if a0w res then st1 else st2) N d res)/\a54 aft.2 (a85 (if a0w res then st1 else st2) N d res)/\a55 P G N aft rest (fps++[(rd,W)]) K (a85 (if a0w res then st1 else st2) N d res)
def d4p (P:Program) (G:GG) (N:Nat) (aft:DA) (d:Option Nat) (f:FuncId) (args:List (Bool×X)) (rest:List AO) (fps:List (List Nat×List Nat)) (K:St->Prop) (st:St) (o1 o2:Option St):Prop:=match o1,o2 with
 | some st1,some st2=>c1i P G N aft d f (a4r N args.length st2) (d.toList++a0v st (args.map (·.2))) rest fps K st st1 st2
 | _,_=>False
def d8t (P:Program) (G:GG) (N:Nat) (aft:DA) (d:Option Nat) (f:FuncId) (args:List (Bool×X)) (rest:List AO) (fps:List (List Nat×List Nat)) (K:St->Prop) (st:St) (o1:Option St):Prop:=d4p P G N aft d f args rest fps K st o1 (pss N (N+2) args o1)
section
variable {f:FuncId} {args:List (Bool×X)}
@[congr] theorem d4o {o o':Option St} (h:o=o'):d8t P G N aft d f args rest fps K st o=d8t P G N aft d f args rest fps K st o':=by rw [h]
@[congr] theorem d4q {o1 o o':Option St} (h:o=o'):d4p P G N aft d f args rest fps K st o1 o=d4p P G N aft d f args rest fps K st o1 o':=by rw [h]
@[congr] theorem d4n {pre pre':List AV} {rd rd':List Nat} {st1 st2:St} (h:pre=pre') (h2:rd=rd'):c1i P G N aft d f pre rd rest fps K st st1 st2=c1i P G N aft d f pre' rd' rest fps K st st1 st2:=by rw [h,h2]
@[go_sem] theorem d8u {st1:St}:d8t P G N aft d f args rest fps K st (some st1)=d4p P G N aft d f args rest fps K st (some st1) (pss N (N+2) args (some st1)):=(rfl)
@[go_sem] theorem d8v {st1 st2:St}:d4p P G N aft d f args rest fps K st (some st1) (some st2)=c1i P G N aft d f (a4r N args.length st2) (d.toList++a0v st (args.map (·.2))) rest fps K st st1 st2:=(rfl)
@[go_sem] theorem d82 {tys:List TypeId}:a55 P G N aft (⟨d,.call f args tys,none⟩::rest) fps K st=d8t P G N aft d f args rest fps K st (gvs N (N+2) args (some st)):=by
 simp only [a55,c4j,d8t,d4p,c1i]
 cases gvs N (N+2) args (some st) with
 | none=>rfl
 | some st1=>
  simp only
  cases pss N (N+2) args (some st1)<;>rfl
theorem a06 {pre:List AV} {rd:List Nat} {st1 st2:St} {res:AV} (hA:ACalls P G f pre res) (hn:noRef res=true) (hi:a0w res=true) (hrd:∀ t∈rd,t < N) (W:List Nat) (hW:∀ t∈W,t < N) (hf:fr N W st (a85 st1 N d res)) (h:a54 aft.2 (a85 st1 N d res)/\a55 P G N aft rest (fps++[(rd,W)]) K (a85 st1 N d res)):c1i P G N aft d f pre rd rest fps K st st1 st2:=
 ⟨res,W,hA,hn,hrd,hW,by rw [hi]; exact hf,by rw [hi]; exact h⟩
theorem c7q {pre:List AV} {rd:List Nat} {st1 st2:St} {res:AV} (hA:ACalls P G f pre res) (hn:noRef res=true) (hi:a0w res=false) (hrd:∀ t∈rd,t < N) (W:List Nat) (hW:∀ t∈W,t < N) (hf:fr N W st (a85 st2 N d res)) (h:a54 aft.2 (a85 st2 N d res)/\a55 P G N aft rest (fps++[(rd,W)]) K (a85 st2 N d res)):c1i P G N aft d f pre rd rest fps K st st1 st2:=
 ⟨res,W,hA,hn,hrd,hW,by rw [hi]; exact hf,by rw [hi]; exact h⟩
end
section
variable {W:List Nat} {st1:St} {t:Nat} {v:AV}
def frI (b:Bool) (p q:Prop):Prop:=if b then p else q
@[congr] theorem e0d {b b':Bool} {p q:Prop} (h:b=b'):frI b p q=frI b' p q:=by rw [h]
@[go_sem] theorem g0j {p q:Prop}:frI true p q=p:=by simp [frI]
def frX (N:Nat) (W:List Nat) (st st':St):Prop:=fr N W st st'
@[go_sem] theorem f1e:fr N W st st=True:=by simp [fr,agr.refl]
theorem c8o {st2 st3:St} (h:∀ u,u < N->u ∉ W->agr st2 st3 u):fr N W st st2=fr N W st st3:=by
 apply propext
 constructor
 ·intro h2 u hu hw; exact (h2 u hu hw).trans (h u hu hw)
 ·intro h2 u hu hw; exact (h2 u hu hw).trans (h u hu hw).symm
@[go_sem] theorem f76:fr N W st (st1.put t v)=frI (W.contains t||decide (N<=t)) (fr N W st st1) (frX N W st (st1.put t v)):=by
 simp only [frI,frX]
 split
 ·rename_i h
  refine c8o fun u hu hw=>(agr.putn v ?_).symm
  rintro rfl
  simp at h
  rcases h with h | h
  ·exact hw h
  ·omega
 ·rfl
@[go_sem] theorem f77:fr N W st (st1.set t v)=frI (W.contains t||decide (N<=t)) (fr N W st st1) (frX N W st (st1.set t v)):=by
 simp only [frI,frX]
 split
 ·rename_i h
  refine c8o fun u hu hw=>(agr.setn v ?_).symm
  rintro rfl
  simp at h
  rcases h with h | h
  ·exact hw h
  ·omega
 ·rfl
@[go_sem] theorem f1f {M:Nat}:fr N W st (st1.thru M t v)=frI ((W.contains t||decide (N<=t))&&decide (N<=M)) (fr N W st st1) (frX N W st (st1.thru M t v)):=by
 simp only [frI,frX]
 split
 ·rename_i h
  simp only [Bool.and_eq_true,Bool.or_eq_true,decide_eq_true_eq,List.contains_iff_mem] at h
  refine c8o fun u hu hw=> ?_
  have h1:u≠M:=by omega
  have h2:u≠t:=by
   rintro rfl
   rcases h.1 with h | h
   ·exact hw h
   ·omega
  exact (((agr.putn v h1).trans (agr.putn _ h1)).trans (agr.putn v h2)).symm
 ·rfl
@[go_sem] theorem e6j:fr N W st (st1.clear N)=fr N W st st1:=by
 refine c8o fun u hu _=> ?_
 simp [agr,St.clear,hu]
end
end
@[congr] theorem d40 {b b':Bool} {p q:Prop} (h:b=b'):c6y b p q=c6y b' p q:=by rw [h]
@[go_sem] theorem f7g {p q:Prop}:c6y true p q=p:=by simp [c6y]
section
variable {P:Program} {G:GG} {N:Nat} {aft:DA} {fps:List (List Nat×List Nat)} {K:St->Prop} {st st':St} {d:Option Nat} {rest:List AO} {ex:List Nat} {xs:List X}
@[go_sem] theorem f7f {p:Prop}:c6y false p (c7r P G N aft ex d xs rest fps K st st')=((∀ t∈ex++(d.toList++a0v st xs),t < N)/\a54 aft.2 st'/\a55 P G N aft rest (fps++[(ex++c8r N,c8r N)]) K st'):=by simp only [c6y,c7r,Bool.false_eq_true,if_false]
end
@[go_sem] theorem e8s {st:St} {xs:List X} {i:IOp}:a56 [] st xs i=a0v st xs:=by unfold a56; split<;>simp
@[go_sem] theorem f4z {V:List (Nat×Nat)} {p:Nat×Nat} {st:St} {xs:List X} {t:Nat}:a56 (p::V) st xs (.mv (.t t))=if (p::V).any (fun p=>p.1==t) then [] else a0v st xs:=(rfl)
section
variable {V:List (Nat×Nat)} {st:St} {xs:List X}
@[go_sem] theorem e8f {z0:X}:a56 V st xs (.asg z0)=a0v st xs:=(rfl)
@[go_sem] theorem e8p {z0:X}:a56 V st xs (.mva z0)=a0v st xs:=(rfl)
@[go_sem] theorem e8r {z0:X}:a56 V st xs (.mvf z0)=a0v st xs:=(rfl)
@[go_sem] theorem e3f {z0:X} {z1:X} {z2:X}:a56 V st xs (.pick z0 z1 z2)=a0v st xs:=(rfl)
@[go_sem] theorem d6k {z0:TypeId} {z1:List AV}:a56 V st xs (.alloc z0 z1)=a0v st xs:=(rfl)
@[go_sem] theorem e8h {z0:TypeId} {z1:Nat} {z2:X}:a56 V st xs (.box z0 z1 z2)=a0v st xs:=(rfl)
@[go_sem] theorem d6l {z0:TypeId} {z1:List AV} {z2:List (Nat×Nat×Nat×X)}:a56 V st xs (.build z0 z1 z2)=a0v st xs:=(rfl)
@[go_sem] theorem d26 {z0:TypeId} {z1:TypeId} {z2:Nat} {z3:Nat} {z4:List AV} {z5:List (Nat×X)}:a56 V st xs (.bslice z0 z1 z2 z3 z4 z5)=a0v st xs:=(rfl)
@[go_sem] theorem e3c {z0:TypeId} {z1:Option Nat} {z2:X}:a56 V st xs (.load z0 z1 z2)=a0v st xs:=(rfl)
@[go_sem] theorem d6r {z0:TypeId} {z1:Nat} {z2:X} {z3:X}:a56 V st xs (.store z0 z1 z2 z3)=a0v st xs:=(rfl)
@[go_sem] theorem d6p {z0:X}:a56 V st xs (.nilck z0)=a0v st xs:=(rfl)
@[go_sem] theorem e8g {z0:BinOp} {z1:TypeId} {z2:Nat} {z3:X} {z4:X} {z5:TypeId}:a56 V st xs (.bin z0 z1 z2 z3 z4 z5)=a0v st xs:=(rfl)
@[go_sem] theorem f40 {z0:UnOp} {z1:TypeId} {z2:X}:a56 V st xs (.un z0 z1 z2)=a0v st xs:=(rfl)
@[go_sem] theorem e8i {z0:BinOp} {z1:TypeId} {z2:TypeId} {z3:TypeId} {z4:X} {z5:X} {z6:TypeId}:a56 V st xs (.eqs z0 z1 z2 z3 z4 z5 z6)=a0v st xs:=(rfl)
@[go_sem] theorem e3b {z0:TypeId} {z1:TypeId} {z2:CK} {z3:X}:a56 V st xs (.conv z0 z1 z2 z3)=a0v st xs:=(rfl)
@[go_sem] theorem e8n {z0:TypeId} {z1:X}:a56 V st xs (.mki z0 z1)=a0v st xs:=(rfl)
@[go_sem] theorem e8m {z0:FuncId} {z1:List X} {z2:List X}:a56 V st xs (.mkf z0 z1 z2)=a0v st xs:=(rfl)
@[go_sem] theorem e8o {z0:TypeId} {z1:TypeId} {z2:Nat} {z3:Nat} {z4:List AV} {z5:X} {z6:X}:a56 V st xs (.mks z0 z1 z2 z3 z4 z5 z6)=a0v st xs:=(rfl)
@[go_sem] theorem d6q {z0:TypeId} {z1:Nat} {z2:X} {z3:Option X} {z4:Option X} {z5:Option X}:a56 V st xs (.slice z0 z1 z2 z3 z4 z5)=a0v st xs:=(rfl)
@[go_sem] theorem d6m {z0:TypeId} {z1:Nat} {z2:X} {z3:Nat}:a56 V st xs (.faddr z0 z1 z2 z3)=a0v st xs:=(rfl)
@[go_sem] theorem d6j {z0:TypeId} {z1:Nat} {z2:X} {z3:Nat}:a56 V st xs (.aaddr z0 z1 z2 z3)=a0v st xs:=(rfl)
@[go_sem] theorem d6n {z0:TypeId} {z1:Nat} {z2:X} {z3:X}:a56 V st xs (.iaddr z0 z1 z2 z3)=a0v st xs:=(rfl)
@[go_sem] theorem e8k {z0 z1 z3:Nat} {z2:X}:a56 V st xs (.fld z0 z1 z2 z3)=a0v st xs:=(rfl)
@[go_sem] theorem d6o {z0:Nat}:a56 V st xs (.mkmap z0)=a0v st xs:=(rfl)
@[go_sem] theorem e3d {z0 z1:Nat} {z2:List AV} {z3 z4:X}:a56 V st xs (.mget z0 z1 z2 z3 z4)=a0v st xs:=(rfl)
@[go_sem] theorem e3e {z0 z1:Nat} {z2 z3 z4:X}:a56 V st xs (.mset z0 z1 z2 z3 z4)=a0v st xs:=(rfl)
@[go_sem] theorem e8j {z0:X} {z1:Nat}:a56 V st xs (.ext z0 z1)=a0v st xs:=(rfl)
@[go_sem] theorem e8t {z0:X} {z1:TypeId} {z2:TypeId} {z3:List AV}:a56 V st xs (.tas z0 z1 z2 z3)=a0v st xs:=(rfl)
@[go_sem] theorem e8l {z0:TypeId} {z1:Bool} {z2:X}:a56 V st xs (.len z0 z1 z2)=a0v st xs:=(rfl)
@[go_sem] theorem e8e {z0:TypeId} {z1:TypeId} {z2:Nat} {z3:Nat} {z4:X} {z5:X}:a56 V st xs (.app z0 z1 z2 z3 z4 z5)=a0v st xs:=(rfl)
@[go_sem] theorem f4y {z0:Bool} {z1:List TypeId} {z2:List X}:a56 V st xs (.mm z0 z1 z2)=a0v st xs:=(rfl)
@[go_sem] theorem e8q {v:Value}:a56 V st xs (.mv (.c v))=a0v st xs:=(rfl)
end
section
variable {v:Value} {n sz o t lo e':Nat} {ks a c:List AV} {q:List Nat} {T:TypeId} {k:AV} {f:FuncId}
@[go_sem] theorem d00:a2r .dead=none:=(rfl)
@[go_sem] theorem d36:a2r (.lit v)=none:=(rfl)
@[go_sem] theorem d77:a2r (.sl n ks)=none:=(rfl)
@[go_sem] theorem d76:a2r (.ip ks o)=none:=(rfl)
@[go_sem] theorem d37:a2r (.own sz n ks)=none:=(rfl)
@[go_sem] theorem d4a:a2r (.var ks)=none:=(rfl)
@[go_sem] theorem d33:a2r (.agg ks)=none:=(rfl)
@[go_sem] theorem d39:a2r (.tup ks)=none:=(rfl)
@[go_sem] theorem d35:a2r (.ifc T k)=none:=(rfl)
@[go_sem] theorem d75:a2r (.fn f a c)=none:=(rfl)
@[go_sem] theorem d38:a2r (.ref t q o e')=some t:=(rfl)
@[go_sem] theorem d34:a2r (.bor t q lo n e')=some t:=(rfl)
end
attribute [go_sem] b0o a0v a70 slL slX Wop wrE Option.toList_some Option.toList_none d67 List.forall_mem_cons
end Go.Ideal
end
