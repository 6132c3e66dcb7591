/- Part Qaf of the proof: walks on a machine that is proved sound. -/
import Derived.Test.YtploijbaclgehaaDoorQae
set_option linter.unusedVariables false
set_option linter.unusedSimpArgs false
section
namespace Go.Ideal
section
variable {P:Program} {G:GG} {N:Nat} {aft:DA} {fps:List (List Nat×List Nat)} {K:St->Prop} {Q:Exit->St->Prop} {st:St} {d:Option Nat} {rest ios:List AO}
theorem a3e {aft:List (List Nat)} (h:a6u P G N (aft,[]) ios [] (Q .normal) st):AW P G N (.draw ios aft) Q st:=⟨[],(fun p hp=>by simp at hp),(fun p hp=>by simp at hp),a7p (aft:=(aft,[])) ios [] (Q .normal) st (fun p hp=>by simp at hp) h⟩
@[go_sem] theorem d7w:a6t [] st=True:=by simp [a6t]
@[go_sem] theorem d0j {t e:Nat} {V:List (Nat×Nat)}:a6t ((t,e)::V) st=(b44 (st.s t)=true/\st.ep t=e/\a6t V st):=by
 apply propext
 constructor
 ·intro h; exact ⟨(h (t,e) (by simp)).1,(h (t,e) (by simp)).2,fun p hp=>h p (by simp [hp])⟩
 ·rintro ⟨h1,h2,h3⟩ p hp
  rcases List.mem_cons.1 hp with rfl | hp
  ·exact ⟨h1,h2⟩
  ·exact h3 p hp
@[go_sem] theorem c8m {ks:List AV}:b44 (.var ks)=true:=(rfl)
@[congr] theorem c6v {V:List (Nat×Nat)} {st':St} (h:st=st'):a6t V st=a6t V st':=by rw [h]
theorem a5h {aft:List (List Nat)} {V:List (Nat×Nat)} (h:b2n aft fps=true) (h2:∀ s,(∀ t,t < N->s.s t=st.s t)->(∀ t,t < N->s.ep t=st.ep t)->K s):e29 N (aft,V) fps K st:=
 ⟨h,fun s hs=>h2 s (fun t ht=>(hs t ht).1) (fun t ht=>(hs t ht).2)⟩
@[congr] theorem c7x {ios':List AO} {fps':List (List Nat×List Nat)} {st':St} (h:ios=ios') (h2:fps=fps') (h3:st=st'):a6u P G N aft ios fps K st=a6u P G N aft ios' fps' K st':=by rw [h,h2,h3]
@[go_sem] theorem d8p:a6u P G N aft [] fps K st=e29 N aft fps K st:=(rfl)
def c2u (N:Nat):List Nat:=List.range N
def c2b (P:Program) (G:GG) (N:Nat) (aft:DA) (ex:List Nat) (d:Option Nat) (xs:List X) (rest:List AO) (fps:List (List Nat×List Nat)) (K:St->Prop) (st st':St):Prop:=
 (∀ t∈ex++(d.toList++a0s st xs),t < N)/\a6t aft.2 st'/\a6u P G N aft rest (fps++[(ex++c2u N,c2u N)]) K st'
def dE (P:Program) (G:GG) (N:Nat) (aft:DA) (ex:List Nat) (d:Option Nat) (i:IOp) (rest:List AO) (fps:List (List Nat×List Nat)) (K:St->Prop) (st:St) (o:Option (List X)) (e:Option St):Prop:=match o,e with
 | some xs,some st'=>c1u (d0b N st i) ((∀ t∈ex++(d.toList++a0s st xs),t < N)/\(∀ t∈Wop st d i,t < N)/\fr N (Wop st d i) st st'/\a6t aft.2 st'/\a6u P G N aft rest (fps++[(ex++(d.toList++a5t aft.2 st xs i),Wop st d i)]) K st') (c2b P G N aft ex d xs rest fps K st st')
 | _,_=>False
@[congr] theorem d8o {ex:List Nat} {i:IOp} {o o':Option (List X)} {e e':Option St} (h:o=o') (h2:e=e'):dE P G N aft ex d i rest fps K st o e=dE P G N aft ex d i rest fps K st o' e':=by rw [h,h2]
@[go_sem] theorem e28 {ex:List Nat} {i:IOp} {xs:List X} {st':St}:dE P G N aft ex d i rest fps K st (some xs) (some st')=c1u (d0b N st i) ((∀ t∈ex++(d.toList++a0s st xs),t < N)/\(∀ t∈Wop st d i,t < N)/\fr N (Wop st d i) st st'/\a6t aft.2 st'/\a6u P G N aft rest (fps++[(ex++(d.toList++a5t aft.2 st xs i),Wop st d i)]) K st') (c2b P G N aft ex d xs rest fps K st st'):=(rfl)
@[go_sem] theorem e3f {i:IOp}:a6u P G N aft (⟨d,.op i,none⟩::rest) fps K st=dE P G N aft [] d i rest fps K st (a9r i) (evS G N d i st):=by
 simp only [a6u,b98,dE]
 cases a9r i<;>cases evS G N d i st<;>rfl
def dGd (P:Program) (G:GG) (N:Nat) (aft:DA) (v:AV) (want:Bool) (t:Nat) (d:Option Nat) (i:IOp) (rest:List AO) (fps:List (List Nat×List Nat)) (K:St->Prop) (st:St):Prop:=match v with
 | .lit v=>if b2d want v then dE P G N aft [t] d i rest fps K st (a9r i) (evS G N d i st) else (∀ u∈t::d.toList,u < N)/\a6t aft.2 (a2c d st)/\a6u P G N aft rest (fps++[([t],d.toList)]) K (a2c d st)
 | _=>False
section
variable {t:Nat} {i:IOp}
@[congr] theorem d11 {v v':AV} {w:Bool} (h:v=v'):dGd P G N aft v w t d i rest fps K st=dGd P G N aft v' w t d i rest fps K st:=by rw [h]
@[go_sem] theorem e9h {j:Nat} {want:Bool}:a6u P G N aft (⟨d,.op i,some (j,t,want)⟩::rest) fps K st=dGd P G N aft (st.s t) want t d i rest fps K st:=by
 simp only [a6u,dGd]
 cases st.s t<;>try rfl
@[go_sem] theorem e9g:dGd P G N aft (.lit (.bool true)) true t d i rest fps K st=dE P G N aft [t] d i rest fps K st (a9r i) (evS G N d i st):=(rfl)
@[go_sem] theorem e9d:dGd P G N aft (.lit (.bool false)) false t d i rest fps K st=dE P G N aft [t] d i rest fps K st (a9r i) (evS G N d i st):=(rfl)
@[go_sem] theorem e9f:dGd P G N aft (.lit (.bool true)) false t d i rest fps K st=((∀ u∈t::d.toList,u < N)/\a6t aft.2 (a2c d st)/\a6u P G N aft rest (fps++[([t],d.toList)]) K (a2c d st)):=(rfl)
@[go_sem] theorem e9e:dGd P G N aft (.lit (.bool false)) true t d i rest fps K st=((∀ u∈t::d.toList,u < N)/\a6t aft.2 (a2c d st)/\a6u P G N aft rest (fps++[([t],d.toList)]) K (a2c d st)):=(rfl)
end
def b9n (P:Program) (G:GG) (N:Nat) (aft:DA) (d:Option Nat) (f:FuncId) (pre:List AV) (rd:List Nat) (rest:List AO) (fps:List (List Nat×List Nat)) (K:St->Prop) (st st1 st2:St):Prop:=
 ∃ res W,ACalls P G f pre res/\noRef res=true/\(∀ t∈rd,t < N)/\(∀ t∈W,t < N)/\fr N W st (b0p (if a0v res then st1 else st2) N d res)/\a6t aft.2 (b0p (if a0v res then st1 else st2) N d res)/\a6u P G N aft rest (fps++[(rd,W)]) K (b0p (if a0v res then st1 else st2) N d res)
def c7o (P:Program) (G:GG) (N:Nat) (aft:DA) (d:Option Nat) (f:FuncId) (args:List (Bool×X)) (rest:List AO) (fps:List (List Nat×List Nat)) (K:St->Prop) (st:St) (o1 o2:Option St):Prop:=match o1,o2 with
 | some st1,some st2=>b9n P G N aft d f (a37 N args.length st2) (d.toList++a0s st (args.map (·.2))) rest fps K st st1 st2
 | _,_=>False
def d1u (P:Program) (G:GG) (N:Nat) (aft:DA) (d:Option Nat) (f:FuncId) (args:List (Bool×X)) (rest:List AO) (fps:List (List Nat×List Nat)) (K:St->Prop) (st:St) (o1:Option St):Prop:=c7o P G N aft d f args rest fps K st o1 (pss N (N+2) args o1)
section
variable {f:FuncId} {args:List (Bool×X)}
@[congr] theorem c7n {o o':Option St} (h:o=o'):d1u P G N aft d f args rest fps K st o=d1u P G N aft d f args rest fps K st o':=by rw [h]
@[congr] theorem c7p {o1 o o':Option St} (h:o=o'):c7o P G N aft d f args rest fps K st o1 o=c7o P G N aft d f args rest fps K st o1 o':=by rw [h]
@[congr] theorem c7m {pre pre':List AV} {rd rd':List Nat} {st1 st2:St} (h:pre=pre') (h2:rd=rd'):b9n P G N aft d f pre rd rest fps K st st1 st2=b9n P G N aft d f pre' rd' rest fps K st st1 st2:=by rw [h,h2]
@[go_sem] theorem d1v {st1:St}:d1u P G N aft d f args rest fps K st (some st1)=c7o P G N aft d f args rest fps K st (some st1) (pss N (N+2) args (some st1)):=(rfl)
@[go_sem] theorem d1w {st1 st2:St}:c7o P G N aft d f args rest fps K st (some st1) (some st2)=b9n P G N aft d f (a37 N args.length st2) (d.toList++a0s st (args.map (·.2))) rest fps K st st1 st2:=(rfl)
@[go_sem] theorem d12 {tys:List TypeId}:a6u P G N aft (⟨d,.call f args tys,none⟩::rest) fps K st=d1u P G N aft d f args rest fps K st (gvs N (N+2) args (some st)):=by
 simp only [a6u,b98,d1u,c7o,b9n]
 cases gvs N (N+2) args (some st) with
 | none=>rfl
 | some st1=>
  simp only
  cases pss N (N+2) args (some st1)<;>rfl
theorem a1o {pre:List AV} {rd:List Nat} {st1 st2:St} {res:AV} (hA:ACalls P G f pre res) (hn:noRef res=true) (hi:a0v res=true) (hrd:∀ t∈rd,t < N) (W:List Nat) (hW:∀ t∈W,t < N) (hf:fr N W st (b0p st1 N d res)) (h:a6t aft.2 (b0p st1 N d res)/\a6u P G N aft rest (fps++[(rd,W)]) K (b0p st1 N d res)):b9n P G N aft d f pre rd rest fps K st st1 st2:=
 ⟨res,W,hA,hn,hrd,hW,by rw [hi]; exact hf,by rw [hi]; exact h⟩
end
section
variable {W:List Nat} {st1:St} {t:Nat} {v:AV}
def frI (b:Bool) (p q:Prop):Prop:=if b then p else q
@[congr] theorem d3f {b b':Bool} {p q:Prop} (h:b=b'):frI b p q=frI b' p q:=by rw [h]
@[go_sem] theorem f3a {p q:Prop}:frI true p q=p:=by simp [frI]
def frX (N:Nat) (W:List Nat) (st st':St):Prop:=fr N W st st'
@[go_sem] theorem e4l:fr N W st st=True:=by simp [fr,agr.refl]
theorem c2s {st2 st3:St} (h:∀ u,u < N->u ∉ W->agr st2 st3 u):fr N W st st2=fr N W st st3:=by
 apply propext
 constructor
 ·intro h2 u hu hw; exact (h2 u hu hw).trans (h u hu hw)
 ·intro h2 u hu hw; exact (h2 u hu hw).trans (h u hu hw).symm
@[go_sem] theorem e96:fr N W st (st1.put t v)=frI (W.contains t||decide (N<=t)) (fr N W st st1) (frX N W st (st1.put t v)):=by
 simp only [frI,frX]
 split
 ·rename_i h
  refine c2s fun u hu hw=>(agr.putn v ?_).symm
  rintro rfl
  simp at h
  rcases h with h | h
  ·exact hw h
  ·omega
 ·rfl
@[go_sem] theorem e97:fr N W st (st1.set t v)=frI (W.contains t||decide (N<=t)) (fr N W st st1) (frX N W st (st1.set t v)):=by
 simp only [frI,frX]
 split
 ·rename_i h
  refine c2s fun u hu hw=>(agr.setn v ?_).symm
  rintro rfl
  simp at h
  rcases h with h | h
  ·exact hw h
  ·omega
 ·rfl
@[go_sem] theorem e4m {M:Nat}:fr N W st (st1.thru M t v)=frI ((W.contains t||decide (N<=t))&&decide (N<=M)) (fr N W st st1) (frX N W st (st1.thru M t v)):=by
 simp only [frI,frX]
 split
 ·rename_i h
  simp only [Bool.and_eq_true,Bool.or_eq_true,decide_eq_true_eq,List.contains_iff_mem] at h
  refine c2s fun u hu hw=> ?_
  have h1:u≠M:=by omega
  have h2:u≠t:=by
   rintro rfl
   rcases h.1 with h | h
   ·exact hw h
   ·omega
  exact (((agr.putn v h1).trans (agr.putn _ h1)).trans (agr.putn v h2)).symm
 ·rfl
@[go_sem] theorem d9f:fr N W st (st1.clear N)=fr N W st st1:=by
 refine c2s fun u hu _=> ?_
 simp [agr,St.clear,hu]
end
end
@[congr] theorem c7z {b b':Bool} {p q:Prop} (h:b=b'):c1u b p q=c1u b' p q:=by rw [h]
@[go_sem] theorem e9j {p q:Prop}:c1u true p q=p:=by simp [c1u]
section
variable {P:Program} {G:GG} {N:Nat} {aft:DA} {fps:List (List Nat×List Nat)} {K:St->Prop} {st st':St} {d:Option Nat} {rest:List AO} {ex:List Nat} {xs:List X}
@[go_sem] theorem e9i {p:Prop}:c1u false p (c2b P G N aft ex d xs rest fps K st st')=((∀ t∈ex++(d.toList++a0s st xs),t < N)/\a6t aft.2 st'/\a6u P G N aft rest (fps++[(ex++c2u N,c2u N)]) K st'):=by simp only [c1u,c2b,Bool.false_eq_true,if_false]
end
@[go_sem] theorem e1q {st:St} {xs:List X} {i:IOp}:a5t [] st xs i=a0s st xs:=by unfold a5t; split<;>simp
@[go_sem] theorem e7i {V:List (Nat×Nat)} {p:Nat×Nat} {st:St} {xs:List X} {t:Nat}:a5t (p::V) st xs (.mv (.t t))=if (p::V).any (fun p=>p.1==t) then [] else a0s st xs:=(rfl)
section
variable {V:List (Nat×Nat)} {st:St} {xs:List X}
@[go_sem] theorem e1d {z0:X}:a5t V st xs (.asg z0)=a0s st xs:=(rfl)
@[go_sem] theorem e1n {z0:X}:a5t V st xs (.mva z0)=a0s st xs:=(rfl)
@[go_sem] theorem e1p {z0:X}:a5t V st xs (.mvf z0)=a0s st xs:=(rfl)
@[go_sem] theorem d6e {z0:X} {z1:X} {z2:X}:a5t V st xs (.pick z0 z1 z2)=a0s st xs:=(rfl)
@[go_sem] theorem c9o {z0:TypeId} {z1:List AV}:a5t V st xs (.alloc z0 z1)=a0s st xs:=(rfl)
@[go_sem] theorem e1f {z0:TypeId} {z1:Nat} {z2:X}:a5t V st xs (.box z0 z1 z2)=a0s st xs:=(rfl)
@[go_sem] theorem c9p {z0:TypeId} {z1:List AV} {z2:List (Nat×Nat×Nat×X)}:a5t V st xs (.build z0 z1 z2)=a0s st xs:=(rfl)
@[go_sem] theorem c6d {z0:TypeId} {z1:TypeId} {z2:Nat} {z3:Nat} {z4:List AV} {z5:List (Nat×X)}:a5t V st xs (.bslice z0 z1 z2 z3 z4 z5)=a0s st xs:=(rfl)
@[go_sem] theorem d6b {z0:TypeId} {z1:Option Nat} {z2:X}:a5t V st xs (.load z0 z1 z2)=a0s st xs:=(rfl)
@[go_sem] theorem c9v {z0:TypeId} {z1:Nat} {z2:X} {z3:X}:a5t V st xs (.store z0 z1 z2 z3)=a0s st xs:=(rfl)
@[go_sem] theorem c9t {z0:X}:a5t V st xs (.nilck z0)=a0s st xs:=(rfl)
@[go_sem] theorem e1e {z0:BinOp} {z1:TypeId} {z2:Nat} {z3:X} {z4:X} {z5:TypeId}:a5t V st xs (.bin z0 z1 z2 z3 z4 z5)=a0s st xs:=(rfl)
@[go_sem] theorem e7j {z0:UnOp} {z1:TypeId} {z2:X}:a5t V st xs (.un z0 z1 z2)=a0s st xs:=(rfl)
@[go_sem] theorem e1g {z0:BinOp} {z1:TypeId} {z2:TypeId} {z3:TypeId} {z4:X} {z5:X} {z6:TypeId}:a5t V st xs (.eqs z0 z1 z2 z3 z4 z5 z6)=a0s st xs:=(rfl)
@[go_sem] theorem d6a {z0:TypeId} {z1:TypeId} {z2:CK} {z3:X}:a5t V st xs (.conv z0 z1 z2 z3)=a0s st xs:=(rfl)
@[go_sem] theorem e1l {z0:TypeId} {z1:X}:a5t V st xs (.mki z0 z1)=a0s st xs:=(rfl)
@[go_sem] theorem e1k {z0:FuncId} {z1:List X} {z2:List X}:a5t V st xs (.mkf z0 z1 z2)=a0s st xs:=(rfl)
@[go_sem] theorem e1m {z0:TypeId} {z1:TypeId} {z2:Nat} {z3:Nat} {z4:List AV} {z5:X} {z6:X}:a5t V st xs (.mks z0 z1 z2 z3 z4 z5 z6)=a0s st xs:=(rfl)
@[go_sem] theorem c9u {z0:TypeId} {z1:Nat} {z2:X} {z3:Option X} {z4:Option X} {z5:Option X}:a5t V st xs (.slice z0 z1 z2 z3 z4 z5)=a0s st xs:=(rfl)
@[go_sem] theorem c9q {z0:TypeId} {z1:Nat} {z2:X} {z3:Nat}:a5t V st xs (.faddr z0 z1 z2 z3)=a0s st xs:=(rfl)
@[go_sem] theorem c9n {z0:TypeId} {z1:Nat} {z2:X} {z3:Nat}:a5t V st xs (.aaddr z0 z1 z2 z3)=a0s st xs:=(rfl)
@[go_sem] theorem c6c {z0:TypeId} {z1 z2:Nat} {z3:X} {z4:X}:a5t V st xs (.aaddrv z0 z1 z2 z3 z4)=a0s st xs:=(rfl)
@[go_sem] theorem c9r {z0:TypeId} {z1:Nat} {z2:X} {z3:X}:a5t V st xs (.iaddr z0 z1 z2 z3)=a0s st xs:=(rfl)
@[go_sem] theorem e1i {z0 z1 z3:Nat} {z2:X}:a5t V st xs (.fld z0 z1 z2 z3)=a0s st xs:=(rfl)
@[go_sem] theorem c9s {z0:Nat}:a5t V st xs (.mkmap z0)=a0s st xs:=(rfl)
@[go_sem] theorem d6c {z0 z1:Nat} {z2:List AV} {z3 z4:X}:a5t V st xs (.mget z0 z1 z2 z3 z4)=a0s st xs:=(rfl)
@[go_sem] theorem d6d {z0 z1:Nat} {z2 z3 z4:X}:a5t V st xs (.mset z0 z1 z2 z3 z4)=a0s st xs:=(rfl)
@[go_sem] theorem e1h {z0:X} {z1:Nat}:a5t V st xs (.ext z0 z1)=a0s st xs:=(rfl)
@[go_sem] theorem e1r {z0:X} {z1:TypeId} {z2:TypeId} {z3:List AV}:a5t V st xs (.tas z0 z1 z2 z3)=a0s st xs:=(rfl)
@[go_sem] theorem e1j {z0:TypeId} {z1:Bool} {z2:X}:a5t V st xs (.len z0 z1 z2)=a0s st xs:=(rfl)
@[go_sem] theorem e1c {z0:TypeId} {z1:TypeId} {z2:Nat} {z3:Nat} {z4:X} {z5:X}:a5t V st xs (.app z0 z1 z2 z3 z4 z5)=a0s st xs:=(rfl)
@[go_sem] theorem e7h {z0:Bool} {z1:List TypeId} {z2:List X}:a5t V st xs (.mm z0 z1 z2)=a0s st xs:=(rfl)
@[go_sem] theorem e1o {v:Value}:a5t V st xs (.mv (.c v))=a0s st xs:=(rfl)
end
section
variable {v:Value} {n sz o t lo e':Nat} {ks a c:List AV} {q:List Nat} {T:TypeId} {k:AV} {f:FuncId}
@[go_sem] theorem c4k:a1z .dead=none:=(rfl)
@[go_sem] theorem c65:a1z (.lit v)=none:=(rfl)
@[go_sem] theorem d06:a1z (.sl n ks)=none:=(rfl)
@[go_sem] theorem d05:a1z (.ip ks o)=none:=(rfl)
@[go_sem] theorem c66:a1z (.own sz n ks)=none:=(rfl)
@[go_sem] theorem c69:a1z (.var ks)=none:=(rfl)
@[go_sem] theorem c62:a1z (.agg ks)=none:=(rfl)
@[go_sem] theorem c68:a1z (.tup ks)=none:=(rfl)
@[go_sem] theorem c64:a1z (.ifc T k)=none:=(rfl)
@[go_sem] theorem d04:a1z (.fn f a c)=none:=(rfl)
@[go_sem] theorem c67:a1z (.ref t q o e')=some t:=(rfl)
@[go_sem] theorem c63:a1z (.bor t q lo n e')=some t:=(rfl)
@[go_sem] theorem c4m:a1z (.loan ks)=b47 ks:=(rfl)
end
attribute [go_sem] a9r a0s b50 slL slX Wop wrE Option.toList_some Option.toList_none d0b List.forall_mem_cons
end Go.Ideal
end
