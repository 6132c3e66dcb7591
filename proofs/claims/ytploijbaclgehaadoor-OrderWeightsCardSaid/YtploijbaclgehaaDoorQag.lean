/- Part Qag of the proof: walks on a machine that is proved sound. -/
import Derived.Test.YtploijbaclgehaaDoorQaf
set_option linter.unusedVariables false
set_option linter.unusedSimpArgs false
section
namespace Go.Ideal
section
variable {P:Program} {G:GG} {N:Nat} {aft:DA} {fps:List (List Nat×List Nat)} {K:St->Prop} {Q:Exit->St->Prop} {st:St} {d:Option Nat} {rest ios:List AO}
theorem a0b {aft:List (List Nat)} (h:a6e P G N (aft,[]) ios [] (Q .normal) st):AW P G N (.draw ios aft) Q st:=⟨[],(fun p hp=>by simp at hp),(fun p hp=>by simp at hp),a7u (aft:=(aft,[])) ios [] (Q .normal) st (fun p hp=>by simp at hp) h⟩
@[go_sem] theorem e1u:a6d [] st=True:=by simp [a6d]
@[go_sem] theorem d4m {t e:Nat} {V:List (Nat×Nat)}:a6d ((t,e)::V) st=(b6p (st.s t)=true/\st.ep t=e/\a6d V st):=by
 apply propext
 constructor
 ·intro h; exact ⟨(h (t,e) (by simp)).1,(h (t,e) (by simp)).2,fun p hp=>h p (by simp [hp])⟩
 ·rintro ⟨h1,h2,h3⟩ p hp
  rcases List.mem_cons.1 hp with rfl | hp
  ·exact ⟨h1,h2⟩
  ·exact h3 p hp
@[go_sem] theorem d2t {ks:List AV}:b6p (.var ks)=true:=(rfl)
@[congr] theorem d06 {V:List (Nat×Nat)} {st':St} (h:st=st'):a6d V st=a6d V st':=by rw [h]
theorem a0d {aft:List (List Nat)} {V:List (Nat×Nat)} (h:b3p aft fps=true) (h2:∀ s,(∀ t,t < N->s.s t=st.s t)->(∀ t,t < N->s.ep t=st.ep t)->K s):e62 N (aft,V) fps K st:=
 ⟨h,fun s hs=>h2 s (fun t ht=>(hs t ht).1) (fun t ht=>(hs t ht).2)⟩
@[congr] theorem d17 {ios':List AO} {fps':List (List Nat×List Nat)} {st':St} (h:ios=ios') (h2:fps=fps') (h3:st=st'):a6e P G N aft ios fps K st=a6e P G N aft ios' fps' K st':=by rw [h,h2,h3]
@[go_sem] theorem e2n:a6e P G N aft [] fps K st=e62 N aft fps K st:=(rfl)
def c6m (N:Nat):List Nat:=List.range N
def c5u (P:Program) (G:GG) (N:Nat) (aft:DA) (ex:List Nat) (d:Option Nat) (xs:List X) (rest:List AO) (fps:List (List Nat×List Nat)) (K:St->Prop) (st st':St):Prop:=
 (∀ t∈ex++(d.toList++a0v st xs),t < N)/\a6d aft.2 st'/\a6e P G N aft rest (fps++[(ex++c6m N,c6m N)]) K st'
def dE (P:Program) (G:GG) (N:Nat) (aft:DA) (ex:List Nat) (d:Option Nat) (i:IOp) (rest:List AO) (fps:List (List Nat×List Nat)) (K:St->Prop) (st:St) (o:Option (List X)) (e:Option St):Prop:=match o,e with
 | some xs,some st'=>c42 (d4e N st i) ((∀ t∈ex++(d.toList++a0v st xs),t < N)/\(∀ t∈Wop st d i,t < N)/\fr N (Wop st d i) st st'/\a6d aft.2 st'/\a6e P G N aft rest (fps++[(ex++(d.toList++a5x aft.2 st xs i),Wop st d i)]) K st') (c5u P G N aft ex d xs rest fps K st st')
 | _,_=>False
@[congr] theorem e2m {ex:List Nat} {i:IOp} {o o':Option (List X)} {e e':Option St} (h:o=o') (h2:e=e'):dE P G N aft ex d i rest fps K st o e=dE P G N aft ex d i rest fps K st o' e':=by rw [h,h2]
@[go_sem] theorem e61 {ex:List Nat} {i:IOp} {xs:List X} {st':St}:dE P G N aft ex d i rest fps K st (some xs) (some st')=c42 (d4e N st i) ((∀ t∈ex++(d.toList++a0v st xs),t < N)/\(∀ t∈Wop st d i,t < N)/\fr N (Wop st d i) st st'/\a6d aft.2 st'/\a6e P G N aft rest (fps++[(ex++(d.toList++a5x aft.2 st xs i),Wop st d i)]) K st') (c5u P G N aft ex d xs rest fps K st st'):=(rfl)
@[go_sem] theorem e68 {i:IOp}:a6e P G N aft (⟨d,.op i,none⟩::rest) fps K st=dE P G N aft [] d i rest fps K st (b0d i) (evS G N d i st):=by
 simp only [a6e,c2t,dE]
 cases b0d i<;>cases evS G N d i st<;>rfl
def dGd (P:Program) (G:GG) (N:Nat) (aft:DA) (v:AV) (want:Bool) (t:Nat) (d:Option Nat) (i:IOp) (rest:List AO) (fps:List (List Nat×List Nat)) (K:St->Prop) (st:St):Prop:=match v with
 | .lit v=>if b3b want v then dE P G N aft [t] d i rest fps K st (b0d i) (evS G N d i st) else (∀ u∈t::d.toList,u < N)/\a6d aft.2 (a2j d st)/\a6e P G N aft rest (fps++[([t],d.toList)]) K (a2j d st)
 | _=>False
section
variable {t:Nat} {i:IOp}
@[congr] theorem d54 {v v':AV} {w:Bool} (h:v=v'):dGd P G N aft v w t d i rest fps K st=dGd P G N aft v' w t d i rest fps K st:=by rw [h]
@[go_sem] theorem f27 {j:Nat} {want:Bool}:a6e P G N aft (⟨d,.op i,some (j,t,want)⟩::rest) fps K st=dGd P G N aft (st.s t) want t d i rest fps K st:=by
 simp only [a6e,dGd]
 cases st.s t<;>try rfl
@[go_sem] theorem f25:dGd P G N aft (.lit (.bool true)) true t d i rest fps K st=dE P G N aft [t] d i rest fps K st (b0d i) (evS G N d i st):=(rfl)
@[go_sem] theorem f22:dGd P G N aft (.lit (.bool false)) false t d i rest fps K st=dE P G N aft [t] d i rest fps K st (b0d i) (evS G N d i st):=(rfl)
@[go_sem] theorem f24:dGd P G N aft (.lit (.bool true)) false t d i rest fps K st=((∀ u∈t::d.toList,u < N)/\a6d aft.2 (a2j d st)/\a6e P G N aft rest (fps++[([t],d.toList)]) K (a2j d st)):=(rfl)
@[go_sem] theorem f23:dGd P G N aft (.lit (.bool false)) true t d i rest fps K st=((∀ u∈t::d.toList,u < N)/\a6d aft.2 (a2j d st)/\a6e P G N aft rest (fps++[([t],d.toList)]) K (a2j d st)):=(rfl)
end
def b93 (P:Program) (G:GG) (N:Nat) (aft:DA) (d:Option Nat) (f:FuncId) (pre:List AV) (rd:List Nat) (rest:List AO) (fps:List (List Nat×List Nat)) (K:St->Prop) (st st1 st2:St):Prop:=
 ∃ res W,ACalls P G f pre res/\noRef res=true/\(∀ t∈rd,t < N)/\(∀ t∈W,t < N)/\fr N W st (a8w (if a0w res then st1 else st2) N d res)/\a6d aft.2 (a8w (if a0w res then st1 else st2) N d res)/\a6e P G N aft rest (fps++[(rd,W)]) K (a8w (if a0w res then st1 else st2) N d res)
def d1y (P:Program) (G:GG) (N:Nat) (aft:DA) (d:Option Nat) (f:FuncId) (args:List (Bool×X)) (rest:List AO) (fps:List (List Nat×List Nat)) (K:St->Prop) (st:St) (o1 o2:Option St):Prop:=match o1,o2 with
 | some st1,some st2=>b93 P G N aft d f (a4j N args.length st2) (d.toList++a0v st (args.map (·.2))) rest fps K st st1 st2
 | _,_=>False
def d5x (P:Program) (G:GG) (N:Nat) (aft:DA) (d:Option Nat) (f:FuncId) (args:List (Bool×X)) (rest:List AO) (fps:List (List Nat×List Nat)) (K:St->Prop) (st:St) (o1:Option St):Prop:=d1y P G N aft d f args rest fps K st o1 (pss N (N+2) args o1)
section
variable {f:FuncId} {args:List (Bool×X)}
@[congr] theorem d1x {o o':Option St} (h:o=o'):d5x P G N aft d f args rest fps K st o=d5x P G N aft d f args rest fps K st o':=by rw [h]
@[congr] theorem d1z {o1 o o':Option St} (h:o=o'):d1y P G N aft d f args rest fps K st o1 o=d1y P G N aft d f args rest fps K st o1 o':=by rw [h]
@[congr] theorem d1w {pre pre':List AV} {rd rd':List Nat} {st1 st2:St} (h:pre=pre') (h2:rd=rd'):b93 P G N aft d f pre rd rest fps K st st1 st2=b93 P G N aft d f pre' rd' rest fps K st st1 st2:=by rw [h,h2]
@[go_sem] theorem d5y {st1:St}:d5x P G N aft d f args rest fps K st (some st1)=d1y P G N aft d f args rest fps K st (some st1) (pss N (N+2) args (some st1)):=(rfl)
@[go_sem] theorem d5z {st1 st2:St}:d1y P G N aft d f args rest fps K st (some st1) (some st2)=b93 P G N aft d f (a4j N args.length st2) (d.toList++a0v st (args.map (·.2))) rest fps K st st1 st2:=(rfl)
@[go_sem] theorem d55 {tys:List TypeId}:a6e P G N aft (⟨d,.call f args tys,none⟩::rest) fps K st=d5x P G N aft d f args rest fps K st (gvs N (N+2) args (some st)):=by
 simp only [a6e,c2t,d5x,d1y,b93]
 cases gvs N (N+2) args (some st) with
 | none=>rfl
 | some st1=>
  simp only
  cases pss N (N+2) args (some st1)<;>rfl
theorem a08 {pre:List AV} {rd:List Nat} {st1 st2:St} {res:AV} (hA:ACalls P G f pre res) (hn:noRef res=true) (hi:a0w res=true) (hrd:∀ t∈rd,t < N) (W:List Nat) (hW:∀ t∈W,t < N) (hf:fr N W st (a8w st1 N d res)) (h:a6d aft.2 (a8w st1 N d res)/\a6e P G N aft rest (fps++[(rd,W)]) K (a8w st1 N d res)):b93 P G N aft d f pre rd rest fps K st st1 st2:=
 ⟨res,W,hA,hn,hrd,hW,by rw [hi]; exact hf,by rw [hi]; exact h⟩
theorem c5t {pre:List AV} {rd:List Nat} {st1 st2:St} {res:AV} (hA:ACalls P G f pre res) (hn:noRef res=true) (hi:a0w res=false) (hrd:∀ t∈rd,t < N) (W:List Nat) (hW:∀ t∈W,t < N) (hf:fr N W st (a8w st2 N d res)) (h:a6d aft.2 (a8w st2 N d res)/\a6e P G N aft rest (fps++[(rd,W)]) K (a8w st2 N d res)):b93 P G N aft d f pre rd rest fps K st st1 st2:=
 ⟨res,W,hA,hn,hrd,hW,by rw [hi]; exact hf,by rw [hi]; exact h⟩
end
section
variable {W:List Nat} {st1:St} {t:Nat} {v:AV}
def frI (b:Bool) (p q:Prop):Prop:=if b then p else q
@[congr] theorem d7e {b b':Bool} {p q:Prop} (h:b=b'):frI b p q=frI b' p q:=by rw [h]
@[go_sem] theorem f6z {p q:Prop}:frI true p q=p:=by simp [frI]
def frX (N:Nat) (W:List Nat) (st st':St):Prop:=fr N W st st'
@[go_sem] theorem e75:fr N W st st=True:=by simp [fr,agr.refl]
theorem c6j {st2 st3:St} (h:∀ u,u < N->u ∉ W->agr st2 st3 u):fr N W st st2=fr N W st st3:=by
 apply propext
 constructor
 ·intro h2 u hu hw; exact (h2 u hu hw).trans (h u hu hw)
 ·intro h2 u hu hw; exact (h2 u hu hw).trans (h u hu hw).symm
@[go_sem] theorem f31:fr N W st (st1.put t v)=frI (W.contains t||decide (N<=t)) (fr N W st st1) (frX N W st (st1.put t v)):=by
 simp only [frI,frX]
 split
 ·rename_i h
  refine c6j fun u hu hw=>(agr.putn v ?_).symm
  rintro rfl
  simp at h
  rcases h with h | h
  ·exact hw h
  ·omega
 ·rfl
@[go_sem] theorem f32:fr N W st (st1.set t v)=frI (W.contains t||decide (N<=t)) (fr N W st st1) (frX N W st (st1.set t v)):=by
 simp only [frI,frX]
 split
 ·rename_i h
  refine c6j fun u hu hw=>(agr.setn v ?_).symm
  rintro rfl
  simp at h
  rcases h with h | h
  ·exact hw h
  ·omega
 ·rfl
@[go_sem] theorem e76 {M:Nat}:fr N W st (st1.thru M t v)=frI ((W.contains t||decide (N<=t))&&decide (N<=M)) (fr N W st st1) (frX N W st (st1.thru M t v)):=by
 simp only [frI,frX]
 split
 ·rename_i h
  simp only [Bool.and_eq_true,Bool.or_eq_true,decide_eq_true_eq,List.contains_iff_mem] at h
  refine c6j fun u hu hw=> ?_
  have h1:u≠M:=by omega
  have h2:u≠t:=by
   rintro rfl
   rcases h.1 with h | h
   ·exact hw h
   ·omega
  exact (((agr.putn v h1).trans (agr.putn _ h1)).trans (agr.putn v h2)).symm
 ·rfl
@[go_sem] theorem e3g:fr N W st (st1.clear N)=fr N W st st1:=by
 refine c6j fun u hu _=> ?_
 simp [agr,St.clear,hu]
end
end
@[congr] theorem d19 {b b':Bool} {p q:Prop} (h:b=b'):c42 b p q=c42 b' p q:=by rw [h]
@[go_sem] theorem f3a {p q:Prop}:c42 true p q=p:=by simp [c42]
section
variable {P:Program} {G:GG} {N:Nat} {aft:DA} {fps:List (List Nat×List Nat)} {K:St->Prop} {st st':St} {d:Option Nat} {rest:List AO} {ex:List Nat} {xs:List X}
@[go_sem] theorem f29 {p:Prop}:c42 false p (c5u P G N aft ex d xs rest fps K st st')=((∀ t∈ex++(d.toList++a0v st xs),t < N)/\a6d aft.2 st'/\a6e P G N aft rest (fps++[(ex++c6m N,c6m N)]) K st'):=by simp only [c42,c5u,Bool.false_eq_true,if_false]
end
@[go_sem] theorem e5s {st:St} {xs:List X} {i:IOp}:a5x [] st xs i=a0v st xs:=by unfold a5x; split<;>simp
@[go_sem] theorem f05 {V:List (Nat×Nat)} {p:Nat×Nat} {st:St} {xs:List X} {t:Nat}:a5x (p::V) st xs (.mv (.t t))=if (p::V).any (fun p=>p.1==t) then [] else a0v st xs:=(rfl)
section
variable {V:List (Nat×Nat)} {st:St} {xs:List X}
@[go_sem] theorem e5f {z0:X}:a5x V st xs (.asg z0)=a0v st xs:=(rfl)
@[go_sem] theorem e5p {z0:X}:a5x V st xs (.mva z0)=a0v st xs:=(rfl)
@[go_sem] theorem e5r {z0:X}:a5x V st xs (.mvf z0)=a0v st xs:=(rfl)
@[go_sem] theorem e0d {z0:X} {z1:X} {z2:X}:a5x V st xs (.pick z0 z1 z2)=a0v st xs:=(rfl)
@[go_sem] theorem d3r {z0:TypeId} {z1:List AV}:a5x V st xs (.alloc z0 z1)=a0v st xs:=(rfl)
@[go_sem] theorem e5h {z0:TypeId} {z1:Nat} {z2:X}:a5x V st xs (.box z0 z1 z2)=a0v st xs:=(rfl)
@[go_sem] theorem d3s {z0:TypeId} {z1:List AV} {z2:List (Nat×Nat×Nat×X)}:a5x V st xs (.build z0 z1 z2)=a0v st xs:=(rfl)
@[go_sem] theorem d0i {z0:TypeId} {z1:TypeId} {z2:Nat} {z3:Nat} {z4:List AV} {z5:List (Nat×X)}:a5x V st xs (.bslice z0 z1 z2 z3 z4 z5)=a0v st xs:=(rfl)
@[go_sem] theorem e0a {z0:TypeId} {z1:Option Nat} {z2:X}:a5x V st xs (.load z0 z1 z2)=a0v st xs:=(rfl)
@[go_sem] theorem d3y {z0:TypeId} {z1:Nat} {z2:X} {z3:X}:a5x V st xs (.store z0 z1 z2 z3)=a0v st xs:=(rfl)
@[go_sem] theorem d3w {z0:X}:a5x V st xs (.nilck z0)=a0v st xs:=(rfl)
@[go_sem] theorem e5g {z0:BinOp} {z1:TypeId} {z2:Nat} {z3:X} {z4:X} {z5:TypeId}:a5x V st xs (.bin z0 z1 z2 z3 z4 z5)=a0v st xs:=(rfl)
@[go_sem] theorem f06 {z0:UnOp} {z1:TypeId} {z2:X}:a5x V st xs (.un z0 z1 z2)=a0v st xs:=(rfl)
@[go_sem] theorem e5i {z0:BinOp} {z1:TypeId} {z2:TypeId} {z3:TypeId} {z4:X} {z5:X} {z6:TypeId}:a5x V st xs (.eqs z0 z1 z2 z3 z4 z5 z6)=a0v st xs:=(rfl)
@[go_sem] theorem d99 {z0:TypeId} {z1:TypeId} {z2:CK} {z3:X}:a5x V st xs (.conv z0 z1 z2 z3)=a0v st xs:=(rfl)
@[go_sem] theorem e5n {z0:TypeId} {z1:X}:a5x V st xs (.mki z0 z1)=a0v st xs:=(rfl)
@[go_sem] theorem e5m {z0:FuncId} {z1:List X} {z2:List X}:a5x V st xs (.mkf z0 z1 z2)=a0v st xs:=(rfl)
@[go_sem] theorem e5o {z0:TypeId} {z1:TypeId} {z2:Nat} {z3:Nat} {z4:List AV} {z5:X} {z6:X}:a5x V st xs (.mks z0 z1 z2 z3 z4 z5 z6)=a0v st xs:=(rfl)
@[go_sem] theorem d3x {z0:TypeId} {z1:Nat} {z2:X} {z3:Option X} {z4:Option X} {z5:Option X}:a5x V st xs (.slice z0 z1 z2 z3 z4 z5)=a0v st xs:=(rfl)
@[go_sem] theorem d3t {z0:TypeId} {z1:Nat} {z2:X} {z3:Nat}:a5x V st xs (.faddr z0 z1 z2 z3)=a0v st xs:=(rfl)
@[go_sem] theorem d3q {z0:TypeId} {z1:Nat} {z2:X} {z3:Nat}:a5x V st xs (.aaddr z0 z1 z2 z3)=a0v st xs:=(rfl)
@[go_sem] theorem d3u {z0:TypeId} {z1:Nat} {z2:X} {z3:X}:a5x V st xs (.iaddr z0 z1 z2 z3)=a0v st xs:=(rfl)
@[go_sem] theorem e5k {z0 z1 z3:Nat} {z2:X}:a5x V st xs (.fld z0 z1 z2 z3)=a0v st xs:=(rfl)
@[go_sem] theorem d3v {z0:Nat}:a5x V st xs (.mkmap z0)=a0v st xs:=(rfl)
@[go_sem] theorem e0b {z0 z1:Nat} {z2:List AV} {z3 z4:X}:a5x V st xs (.mget z0 z1 z2 z3 z4)=a0v st xs:=(rfl)
@[go_sem] theorem e0c {z0 z1:Nat} {z2 z3 z4:X}:a5x V st xs (.mset z0 z1 z2 z3 z4)=a0v st xs:=(rfl)
@[go_sem] theorem e5j {z0:X} {z1:Nat}:a5x V st xs (.ext z0 z1)=a0v st xs:=(rfl)
@[go_sem] theorem e5t {z0:X} {z1:TypeId} {z2:TypeId} {z3:List AV}:a5x V st xs (.tas z0 z1 z2 z3)=a0v st xs:=(rfl)
@[go_sem] theorem e5l {z0:TypeId} {z1:Bool} {z2:X}:a5x V st xs (.len z0 z1 z2)=a0v st xs:=(rfl)
@[go_sem] theorem e5e {z0:TypeId} {z1:TypeId} {z2:Nat} {z3:Nat} {z4:X} {z5:X}:a5x V st xs (.app z0 z1 z2 z3 z4 z5)=a0v st xs:=(rfl)
@[go_sem] theorem f04 {z0:Bool} {z1:List TypeId} {z2:List X}:a5x V st xs (.mm z0 z1 z2)=a0v st xs:=(rfl)
@[go_sem] theorem e5q {v:Value}:a5x V st xs (.mv (.c v))=a0v st xs:=(rfl)
end
section
variable {v:Value} {n sz o t lo e':Nat} {ks a c:List AV} {q:List Nat} {T:TypeId} {k:AV} {f:FuncId}
@[go_sem] theorem c8j:a2h .dead=none:=(rfl)
@[go_sem] theorem d1f:a2h (.lit v)=none:=(rfl)
@[go_sem] theorem d5c:a2h (.sl n ks)=none:=(rfl)
@[go_sem] theorem d5b:a2h (.ip ks o)=none:=(rfl)
@[go_sem] theorem d1g:a2h (.own sz n ks)=none:=(rfl)
@[go_sem] theorem d1j:a2h (.var ks)=none:=(rfl)
@[go_sem] theorem d1c:a2h (.agg ks)=none:=(rfl)
@[go_sem] theorem d1i:a2h (.tup ks)=none:=(rfl)
@[go_sem] theorem d1e:a2h (.ifc T k)=none:=(rfl)
@[go_sem] theorem d5a:a2h (.fn f a c)=none:=(rfl)
@[go_sem] theorem d1h:a2h (.ref t q o e')=some t:=(rfl)
@[go_sem] theorem d1d:a2h (.bor t q lo n e')=some t:=(rfl)
end
attribute [go_sem] b0d a0v a7v slL slX Wop wrE Option.toList_some Option.toList_none d4e List.forall_mem_cons
end Go.Ideal
end
