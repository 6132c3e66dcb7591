/- Part Qag of the proof: walks on a machine that is proved sound. -/
import Derived.Test.YtploijbaclgehaaDoorQaf
set_option linter.unusedVariables false
set_option linter.unusedSimpArgs false
section
namespace Go.Ideal
section
variable {P:Program} {G:GG} {N:Nat} {aft:DA} {fps:List (List Nat×List Nat)} {K:St->Prop} {Q:Exit->St->Prop} {st:St} {d:Option Nat} {rest ios:List AO}
theorem a0b {aft:List (List Nat)} (h:a65 P G N (aft,[]) ios [] (Q .normal) st):AW P G N (.draw ios aft) Q st:=⟨[],(fun p hp=>by simp at hp),(fun p hp=>by simp at hp),a66 (aft:=(aft,[])) ios [] (Q .normal) st (fun p hp=>by simp at hp) h⟩
theorem b0m {aft:List (List Nat)} (V:List (Nat×Nat)) (hN:∀ p∈V,p.1 < N) (hI:a62 V st) (h:a65 P G N (aft,V) ios [] (Q .normal) st):AW P G N (.draw ios aft) Q st:=⟨V,hN,hI,a66 (aft:=(aft,V)) ios [] (Q .normal) st hI h⟩
@[go_sem] theorem e9c:a62 [] st=True:=by simp [a62]
@[go_sem] theorem e1i {t e:Nat} {V:List (Nat×Nat)}:a62 ((t,e)::V) st=(b91 (st.s t)=true/\st.ep t=e/\a62 V st):=by
 apply propext
 constructor
 ·intro h; exact ⟨(h (t,e) (by simp)).1,(h (t,e) (by simp)).2,fun p hp=>h p (by simp [hp])⟩
 ·rintro ⟨h1,h2,h3⟩ p hp
  rcases List.mem_cons.1 hp with rfl | hp
  ·exact ⟨h1,h2⟩
  ·exact h3 p hp
@[go_sem] theorem d9n {ks:List AV}:b91 (.var ks)=true:=(rfl)
@[congr] theorem d7z {V:List (Nat×Nat)} {st':St} (h:st=st'):a62 V st=a62 V st':=by rw [h]
theorem a0c {aft:List (List Nat)} {V:List (Nat×Nat)} (h:b6j aft fps=true) (h2:∀ s,(∀ t,t < N->s.s t=st.s t)->(∀ t,t < N->s.ep t=st.ep t)->K s):f4o N (aft,V) fps K st:=
 ⟨h,fun s hs=>h2 s (fun t ht=>(hs t ht).1) (fun t ht=>(hs t ht).2)⟩
@[congr] theorem d80 {ios':List AO} {fps':List (List Nat×List Nat)} {st':St} (h:ios=ios') (h2:fps=fps') (h3:st=st'):a65 P G N aft ios fps K st=a65 P G N aft ios' fps' K st':=by rw [h,h2,h3]
@[go_sem] theorem e95:a65 P G N aft [] fps K st=f4o N aft fps K st:=(rfl)
def d15 (N:Nat):List Nat:=List.range N
def d1b (P:Program) (G:GG) (N:Nat) (aft:DA) (ex:List Nat) (d:Option Nat) (xs:List X) (rest:List AO) (fps:List (List Nat×List Nat)) (K:St->Prop) (st st':St):Prop:=
 (∀ t∈ex++(d.toList++a0v st xs),t < N)/\a62 aft.2 st'/\a65 P G N aft rest (fps++[(ex++d15 N,d15 N)]) K st'
def dE (P:Program) (G:GG) (N:Nat) (aft:DA) (ex:List Nat) (d:Option Nat) (i:IOp) (rest:List AO) (fps:List (List Nat×List Nat)) (K:St->Prop) (st:St) (o:Option (List X)) (e:Option St):Prop:=match o,e with
 | some xs,some st'=>d0d (e1a N st i) ((∀ t∈ex++(d.toList++a0v st xs),t < N)/\(∀ t∈Wop st d i,t < N)/\fr N (Wop st d i) st st'/\a62 aft.2 st'/\a65 P G N aft rest (fps++[(ex++(d.toList++a6z aft.2 st xs i),Wop st d i)]) K st') (d1b P G N aft ex d xs rest fps K st st')
 | _,_=>False
@[congr] theorem e94 {ex:List Nat} {i:IOp} {o o':Option (List X)} {e e':Option St} (h:o=o') (h2:e=e'):dE P G N aft ex d i rest fps K st o e=dE P G N aft ex d i rest fps K st o' e':=by rw [h,h2]
@[go_sem] theorem f4n {ex:List Nat} {i:IOp} {xs:List X} {st':St}:dE P G N aft ex d i rest fps K st (some xs) (some st')=d0d (e1a N st i) ((∀ t∈ex++(d.toList++a0v st xs),t < N)/\(∀ t∈Wop st d i,t < N)/\fr N (Wop st d i) st st'/\a62 aft.2 st'/\a65 P G N aft rest (fps++[(ex++(d.toList++a6z aft.2 st xs i),Wop st d i)]) K st') (d1b P G N aft ex d xs rest fps K st st'):=(rfl)
@[go_sem] theorem f4u {i:IOp}:a65 P G N aft (⟨d,.op i,none⟩::rest) fps K st=dE P G N aft [] d i rest fps K st (b15 i) (evS G N d i st):=by
 simp only [a65,c7l,dE]
 cases b15 i<;>cases evS G N d i st<;>rfl
def dGd (P:Program) (G:GG) (N:Nat) (aft:DA) (v:AV) (want:Bool) (t:Nat) (d:Option Nat) (i:IOp) (rest:List AO) (fps:List (List Nat×List Nat)) (K:St->Prop) (st:St):Prop:=match v with
 | .lit v=>if b53 want v then dE P G N aft [t] d i rest fps K st (b15 i) (evS G N d i st) else (∀ u∈t::d.toList,u < N)/\a62 aft.2 (a2x d st)/\a65 P G N aft rest (fps++[([t],d.toList)]) K (a2x d st)
 | _=>False
section
variable {t:Nat} {i:IOp}
@[congr] theorem e23 {v v':AV} {w:Bool} (h:v=v'):dGd P G N aft v w t d i rest fps K st=dGd P G N aft v' w t d i rest fps K st:=by rw [h]
@[go_sem] theorem g1n {j:Nat} {want:Bool}:a65 P G N aft (⟨d,.op i,some (j,t,want)⟩::rest) fps K st=dGd P G N aft (st.s t) want t d i rest fps K st:=by
 simp only [a65,dGd]
 cases st.s t<;>try rfl
@[go_sem] theorem g1m:dGd P G N aft (.lit (.bool true)) true t d i rest fps K st=dE P G N aft [t] d i rest fps K st (b15 i) (evS G N d i st):=(rfl)
@[go_sem] theorem g1j:dGd P G N aft (.lit (.bool false)) false t d i rest fps K st=dE P G N aft [t] d i rest fps K st (b15 i) (evS G N d i st):=(rfl)
@[go_sem] theorem g1l:dGd P G N aft (.lit (.bool true)) false t d i rest fps K st=((∀ u∈t::d.toList,u < N)/\a62 aft.2 (a2x d st)/\a65 P G N aft rest (fps++[([t],d.toList)]) K (a2x d st)):=(rfl)
@[go_sem] theorem g1k:dGd P G N aft (.lit (.bool false)) true t d i rest fps K st=((∀ u∈t::d.toList,u < N)/\a62 aft.2 (a2x d st)/\a65 P G N aft rest (fps++[([t],d.toList)]) K (a2x d st)):=(rfl)
end
def c31 (P:Program) (G:GG) (N:Nat) (aft:DA) (d:Option Nat) (f:FuncId) (pre:List AV) (rd:List Nat) (rest:List AO) (fps:List (List Nat×List Nat)) (K:St->Prop) (st st1 st2:St):Prop:=
 ∃ res W,ACalls P G f pre res/\noRef res=true/\(∀ t∈rd,t < N)/\(∀ t∈W,t < N)/\fr N W st (b0u (if a0y res then st1 else st2) N d res)/\a62 aft.2 (b0u (if a0y res then st1 else st2) N d res)/\a65 P G N aft rest (fps++[(rd,W)]) K (b0u (if a0y res then st1 else st2) N d res)
def d8r (P:Program) (G:GG) (N:Nat) (aft:DA) (d:Option Nat) (f:FuncId) (args:List (Bool×X)) (rest:List AO) (fps:List (List Nat×List Nat)) (K:St->Prop) (st:St) (o1 o2:Option St):Prop:=match o1,o2 with
 | some st1,some st2=>c31 P G N aft d f (a5b N args.length st2) (d.toList++a0v st (args.map (·.2))) rest fps K st st1 st2
 | _,_=>False
def e2w (P:Program) (G:GG) (N:Nat) (aft:DA) (d:Option Nat) (f:FuncId) (args:List (Bool×X)) (rest:List AO) (fps:List (List Nat×List Nat)) (K:St->Prop) (st:St) (o1:Option St):Prop:=d8r P G N aft d f args rest fps K st o1 (pss N (N+2) args o1)
section
variable {f:FuncId} {args:List (Bool×X)}
@[congr] theorem d8q {o o':Option St} (h:o=o'):e2w P G N aft d f args rest fps K st o=e2w P G N aft d f args rest fps K st o':=by rw [h]
@[congr] theorem d8s {o1 o o':Option St} (h:o=o'):d8r P G N aft d f args rest fps K st o1 o=d8r P G N aft d f args rest fps K st o1 o':=by rw [h]
@[congr] theorem d8p {pre pre':List AV} {rd rd':List Nat} {st1 st2:St} (h:pre=pre') (h2:rd=rd'):c31 P G N aft d f pre rd rest fps K st st1 st2=c31 P G N aft d f pre' rd' rest fps K st st1 st2:=by rw [h,h2]
@[go_sem] theorem e2x {st1:St}:e2w P G N aft d f args rest fps K st (some st1)=d8r P G N aft d f args rest fps K st (some st1) (pss N (N+2) args (some st1)):=(rfl)
@[go_sem] theorem e2y {st1 st2:St}:d8r P G N aft d f args rest fps K st (some st1) (some st2)=c31 P G N aft d f (a5b N args.length st2) (d.toList++a0v st (args.map (·.2))) rest fps K st st1 st2:=(rfl)
@[go_sem] theorem e24 {tys:List TypeId}:a65 P G N aft (⟨d,.call f args tys,none⟩::rest) fps K st=e2w P G N aft d f args rest fps K st (gvs N (N+2) args (some st)):=by
 simp only [a65,c7l,e2w,d8r,c31]
 cases gvs N (N+2) args (some st) with
 | none=>rfl
 | some st1=>
  simp only
  cases pss N (N+2) args (some st1)<;>rfl
theorem a0w {pre:List AV} {rd:List Nat} {st1 st2:St} {res:AV} (hA:ACalls P G f pre res) (hn:noRef res=true) (hi:a0y res=true) (hrd:∀ t∈rd,t < N) (W:List Nat) (hW:∀ t∈W,t < N) (hf:fr N W st (b0u st1 N d res)) (h:a62 aft.2 (b0u st1 N d res)/\a65 P G N aft rest (fps++[(rd,W)]) K (b0u st1 N d res)):c31 P G N aft d f pre rd rest fps K st st1 st2:=
 ⟨res,W,hA,hn,hrd,hW,by rw [hi]; exact hf,by rw [hi]; exact h⟩
theorem d1a {pre:List AV} {rd:List Nat} {st1 st2:St} {res:AV} (hA:ACalls P G f pre res) (hn:noRef res=true) (hi:a0y res=false) (hrd:∀ t∈rd,t < N) (W:List Nat) (hW:∀ t∈W,t < N) (hf:fr N W st (b0u st2 N d res)) (h:a62 aft.2 (b0u st2 N d res)/\a65 P G N aft rest (fps++[(rd,W)]) K (b0u st2 N d res)):c31 P G N aft d f pre rd rest fps K st st1 st2:=
 ⟨res,W,hA,hn,hrd,hW,by rw [hi]; exact hf,by rw [hi]; exact h⟩
end
section
variable {W:List Nat} {st1:St} {t:Nat} {v:AV}
def frI (b:Bool) (p q:Prop):Prop:=if b then p else q
@[congr] theorem e4g {b b':Bool} {p q:Prop} (h:b=b'):frI b p q=frI b' p q:=by rw [h]
@[go_sem] theorem g5e {p q:Prop}:frI true p q=p:=by simp [frI]
def frX (N:Nat) (W:List Nat) (st st':St):Prop:=fr N W st st'
@[go_sem] theorem f52:fr N W st st=True:=by simp [fr,agr.refl]
theorem d13 {st2 st3:St} (h:∀ u,u < N->u ∉ W->agr st2 st3 u):fr N W st st2=fr N W st st3:=by
 apply propext
 constructor
 ·intro h2 u hu hw; exact (h2 u hu hw).trans (h u hu hw)
 ·intro h2 u hu hw; exact (h2 u hu hw).trans (h u hu hw).symm
@[go_sem] theorem g2e:fr N W st (st1.put t v)=frI (W.contains t||decide (N<=t)) (fr N W st st1) (frX N W st (st1.put t v)):=by
 simp only [frI,frX]
 split
 ·rename_i h
  refine d13 fun u hu hw=>(agr.putn v ?_).symm
  rintro rfl
  simp at h
  rcases h with h | h
  ·exact hw h
  ·omega
 ·rfl
@[go_sem] theorem g2f:fr N W st (st1.set t v)=frI (W.contains t||decide (N<=t)) (fr N W st st1) (frX N W st (st1.set t v)):=by
 simp only [frI,frX]
 split
 ·rename_i h
  refine d13 fun u hu hw=>(agr.setn v ?_).symm
  rintro rfl
  simp at h
  rcases h with h | h
  ·exact hw h
  ·omega
 ·rfl
@[go_sem] theorem f53 {M:Nat}:fr N W st (st1.thru M t v)=frI ((W.contains t||decide (N<=t))&&decide (N<=M)) (fr N W st st1) (frX N W st (st1.thru M t v)):=by
 simp only [frI,frX]
 split
 ·rename_i h
  simp only [Bool.and_eq_true,Bool.or_eq_true,decide_eq_true_eq,List.contains_iff_mem] at h
  refine d13 fun u hu hw=> ?_
  have h1:u≠M:=by omega
  have h2:u≠t:=by
   rintro rfl
   rcases h.1 with h | h
   ·exact hw h
   ·omega
  exact (((agr.putn v h1).trans (agr.putn _ h1)).trans (agr.putn v h2)).symm
 ·rfl
@[go_sem] theorem f0w:fr N W st (st1.clear N)=fr N W st st1:=by
 refine d13 fun u hu _=> ?_
 simp [agr,St.clear,hu]
end
end
@[congr] theorem d82 {b b':Bool} {p q:Prop} (h:b=b'):d0d b p q=d0d b' p q:=by rw [h]
@[go_sem] theorem g1p {p q:Prop}:d0d true p q=p:=by simp [d0d]
section
variable {P:Program} {G:GG} {N:Nat} {aft:DA} {fps:List (List Nat×List Nat)} {K:St->Prop} {st st':St} {d:Option Nat} {rest:List AO} {ex:List Nat} {xs:List X}
@[go_sem] theorem g1o {p:Prop}:d0d false p (d1b P G N aft ex d xs rest fps K st st')=((∀ t∈ex++(d.toList++a0v st xs),t < N)/\a62 aft.2 st'/\a65 P G N aft rest (fps++[(ex++d15 N,d15 N)]) K st'):=by simp only [d0d,d1b,Bool.false_eq_true,if_false]
end
@[go_sem] theorem f3d {st:St} {xs:List X} {i:IOp}:a6z [] st xs i=a0v st xs:=by unfold a6z; split<;>simp
@[go_sem] theorem f9g {V:List (Nat×Nat)} {p:Nat×Nat} {st:St} {xs:List X} {t:Nat}:a6z (p::V) st xs (.mv (.t t))=if (p::V).any (fun p=>p.1==t) then [] else a0v st xs:=(rfl)
section
variable {V:List (Nat×Nat)} {st:St} {xs:List X}
@[go_sem] theorem f2u {z0:X}:a6z V st xs (.asg z0)=a0v st xs:=(rfl)
@[go_sem] theorem f3a {z0:X}:a6z V st xs (.mva z0)=a0v st xs:=(rfl)
@[go_sem] theorem f3c {z0:X}:a6z V st xs (.mvf z0)=a0v st xs:=(rfl)
@[go_sem] theorem e7p {z0:X} {z1:X} {z2:X}:a6z V st xs (.pick z0 z1 z2)=a0v st xs:=(rfl)
@[go_sem] theorem e0n {z0:TypeId} {z1:List AV}:a6z V st xs (.alloc z0 z1)=a0v st xs:=(rfl)
@[go_sem] theorem f2w {z0:TypeId} {z1:Nat} {z2:X}:a6z V st xs (.box z0 z1 z2)=a0v st xs:=(rfl)
@[go_sem] theorem e0o {z0:TypeId} {z1:List AV} {z2:List (Nat×Nat×Nat×X)}:a6z V st xs (.build z0 z1 z2)=a0v st xs:=(rfl)
@[go_sem] theorem d61 {z0:TypeId} {z1:TypeId} {z2:Nat} {z3:Nat} {z4:List AV} {z5:List (Nat×X)}:a6z V st xs (.bslice z0 z1 z2 z3 z4 z5)=a0v st xs:=(rfl)
@[go_sem] theorem e7m {z0:TypeId} {z1:Option Nat} {z2:X}:a6z V st xs (.load z0 z1 z2)=a0v st xs:=(rfl)
@[go_sem] theorem e0u {z0:TypeId} {z1:Nat} {z2:X} {z3:X}:a6z V st xs (.store z0 z1 z2 z3)=a0v st xs:=(rfl)
@[go_sem] theorem e0s {z0:X}:a6z V st xs (.nilck z0)=a0v st xs:=(rfl)
@[go_sem] theorem f2v {z0:BinOp} {z1:TypeId} {z2:Nat} {z3:X} {z4:X} {z5:TypeId}:a6z V st xs (.bin z0 z1 z2 z3 z4 z5)=a0v st xs:=(rfl)
@[go_sem] theorem f9h {z0:UnOp} {z1:TypeId} {z2:X}:a6z V st xs (.un z0 z1 z2)=a0v st xs:=(rfl)
@[go_sem] theorem f2x {z0:BinOp} {z1:TypeId} {z2:TypeId} {z3:TypeId} {z4:X} {z5:X} {z6:TypeId}:a6z V st xs (.eqs z0 z1 z2 z3 z4 z5 z6)=a0v st xs:=(rfl)
@[go_sem] theorem e7l {z0:TypeId} {z1:TypeId} {z2:CK} {z3:X}:a6z V st xs (.conv z0 z1 z2 z3)=a0v st xs:=(rfl)
@[go_sem] theorem f25 {z0:TypeId} {z1:X}:a6z V st xs (.mki z0 z1)=a0v st xs:=(rfl)
@[go_sem] theorem f24 {z0:FuncId} {z1:List X} {z2:List X}:a6z V st xs (.mkf z0 z1 z2)=a0v st xs:=(rfl)
@[go_sem] theorem f29 {z0:TypeId} {z1:TypeId} {z2:Nat} {z3:Nat} {z4:List AV} {z5:X} {z6:X}:a6z V st xs (.mks z0 z1 z2 z3 z4 z5 z6)=a0v st xs:=(rfl)
@[go_sem] theorem e0t {z0:TypeId} {z1:Nat} {z2:X} {z3:Option X} {z4:Option X} {z5:Option X}:a6z V st xs (.slice z0 z1 z2 z3 z4 z5)=a0v st xs:=(rfl)
@[go_sem] theorem e0p {z0:TypeId} {z1:Nat} {z2:X} {z3:Nat}:a6z V st xs (.faddr z0 z1 z2 z3)=a0v st xs:=(rfl)
@[go_sem] theorem e0m {z0:TypeId} {z1:Nat} {z2:X} {z3:Nat}:a6z V st xs (.aaddr z0 z1 z2 z3)=a0v st xs:=(rfl)
@[go_sem] theorem e0q {z0:TypeId} {z1:Nat} {z2:X} {z3:X}:a6z V st xs (.iaddr z0 z1 z2 z3)=a0v st xs:=(rfl)
@[go_sem] theorem f2z {z0 z1 z3:Nat} {z2:X}:a6z V st xs (.fld z0 z1 z2 z3)=a0v st xs:=(rfl)
@[go_sem] theorem e0r {z0:Nat}:a6z V st xs (.mkmap z0)=a0v st xs:=(rfl)
@[go_sem] theorem e7n {z0 z1:Nat} {z2:List AV} {z3 z4:X}:a6z V st xs (.mget z0 z1 z2 z3 z4)=a0v st xs:=(rfl)
@[go_sem] theorem e7o {z0 z1:Nat} {z2 z3 z4:X}:a6z V st xs (.mset z0 z1 z2 z3 z4)=a0v st xs:=(rfl)
@[go_sem] theorem f2y {z0:X} {z1:Nat}:a6z V st xs (.ext z0 z1)=a0v st xs:=(rfl)
@[go_sem] theorem f3e {z0:X} {z1:TypeId} {z2:TypeId} {z3:List AV}:a6z V st xs (.tas z0 z1 z2 z3)=a0v st xs:=(rfl)
@[go_sem] theorem f23 {z0:TypeId} {z1:Bool} {z2:X}:a6z V st xs (.len z0 z1 z2)=a0v st xs:=(rfl)
@[go_sem] theorem f2t {z0:TypeId} {z1:TypeId} {z2:Nat} {z3:Nat} {z4:X} {z5:X}:a6z V st xs (.app z0 z1 z2 z3 z4 z5)=a0v st xs:=(rfl)
@[go_sem] theorem f9f {z0:Bool} {z1:List TypeId} {z2:List X}:a6z V st xs (.mm z0 z1 z2)=a0v st xs:=(rfl)
@[go_sem] theorem f3b {v:Value}:a6z V st xs (.mv (.c v))=a0v st xs:=(rfl)
end
section
variable {v:Value} {n sz o t lo e':Nat} {ks a c:List AV} {q:List Nat} {T:TypeId} {k:AV} {f:FuncId}
@[go_sem] theorem d4q:a2o .dead=none:=(rfl)
@[go_sem] theorem d78:a2o (.lit v)=none:=(rfl)
@[go_sem] theorem e2a:a2o (.sl n ks)=none:=(rfl)
@[go_sem] theorem e19:a2o (.ip ks o)=none:=(rfl)
@[go_sem] theorem d79:a2o (.own sz n ks)=none:=(rfl)
@[go_sem] theorem d8c:a2o (.var ks)=none:=(rfl)
@[go_sem] theorem d75:a2o (.agg ks)=none:=(rfl)
@[go_sem] theorem d8b:a2o (.tup ks)=none:=(rfl)
@[go_sem] theorem d77:a2o (.ifc T k)=none:=(rfl)
@[go_sem] theorem e18:a2o (.fn f a c)=none:=(rfl)
@[go_sem] theorem d8a:a2o (.ref t q o e')=some t:=(rfl)
@[go_sem] theorem d76:a2o (.bor t q lo n e')=some t:=(rfl)
end
attribute [go_sem] b15 a0v a9d slL slX Wop wrE Option.toList_some Option.toList_none e1a List.forall_mem_cons
end Go.Ideal
end
