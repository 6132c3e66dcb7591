/- Part Qag of the proof: walks on a machine that is proved sound. -/
import Derived.Test.YtlemfkimffoiiaaGreatDoorQaf
set_option linter.unusedVariables false
set_option linter.unusedSimpArgs false
section
namespace Go.Ideal
section
variable {P:Program} {G:GG} {N:Nat} {aft:DA} {fps:List (List Nat×List Nat)} {K:St->Prop} {Q:Exit->St->Prop} {st:St} {d:Option Nat} {rest ios:List AO}
theorem a0b {aft:List (List Nat)} (h:a6c P G N (aft,[]) ios [] (Q .normal) st):AW P G N (.draw ios aft) Q st:=⟨[],(fun p hp=>by simp at hp),(fun p hp=>by simp at hp),a6h (aft:=(aft,[])) ios [] (Q .normal) st (fun p hp=>by simp at hp) h⟩
theorem c20 {aft:List (List Nat)} (V:List (Nat×Nat)) (hN:∀ p∈V,p.1 < N) (hI:a6b V st) (h:a6c P G N (aft,V) ios [] (Q .normal) st):AW P G N (.draw ios aft) Q st:=⟨V,hN,hI,a6h (aft:=(aft,V)) ios [] (Q .normal) st hI h⟩
@[go_sem] theorem e69:a6b [] st=True:=by simp [a6b]
@[go_sem] theorem d9j {t e:Nat} {V:List (Nat×Nat)}:a6b ((t,e)::V) st=(b9f (st.s t)=true/\st.ep t=e/\a6b V st):=by
 apply propext
 constructor
 ·intro h; exact ⟨(h (t,e) (by simp)).1,(h (t,e) (by simp)).2,fun p hp=>h p (by simp [hp])⟩
 ·rintro ⟨h1,h2,h3⟩ p hp
  rcases List.mem_cons.1 hp with rfl | hp
  ·exact ⟨h1,h2⟩
  ·exact h3 p hp
@[go_sem] theorem d7q {ks:List AV}:b9f (.var ks)=true:=(rfl)
@[congr] theorem d52 {V:List (Nat×Nat)} {st':St} (h:st=st'):a6b V st=a6b V st':=by rw [h]
theorem a0d {aft:List (List Nat)} {V:List (Nat×Nat)} (h:b51 aft fps=true) (h2:∀ s,(∀ t,t < N->s.s t=st.s t)->(∀ t,t < N->s.ep t=st.ep t)->K s):f2m N (aft,V) fps K st:=
 ⟨h,fun s hs=>h2 s (fun t ht=>(hs t ht).1) (fun t ht=>(hs t ht).2)⟩
@[congr] theorem d63 {ios':List AO} {fps':List (List Nat×List Nat)} {st':St} (h:ios=ios') (h2:fps=fps') (h3:st=st'):a6c P G N aft ios fps K st=a6c P G N aft ios' fps' K st':=by rw [h,h2,h3]
@[go_sem] theorem e72:a6c P G N aft [] fps K st=f2m N aft fps K st:=(rfl)
def d0q (N:Nat):List Nat:=List.range N
def c9t (P:Program) (G:GG) (N:Nat) (aft:DA) (ex:List Nat) (d:Option Nat) (xs:List X) (rest:List AO) (fps:List (List Nat×List Nat)) (K:St->Prop) (st st':St):Prop:=
 (∀ t∈ex++(d.toList++a0v st xs),t < N)/\a6b aft.2 st'/\a6c P G N aft rest (fps++[(ex++d0q N,d0q N)]) K st'
def dE (P:Program) (G:GG) (N:Nat) (aft:DA) (ex:List Nat) (d:Option Nat) (i:IOp) (rest:List AO) (fps:List (List Nat×List Nat)) (K:St->Prop) (st:St) (o:Option (List X)) (e:Option St):Prop:=match o,e with
 | some xs,some st'=>c8x (d9b N st i) ((∀ t∈ex++(d.toList++a0v st xs),t < N)/\(∀ t∈Wop st d i,t < N)/\fr N (Wop st d i) st st'/\a6b aft.2 st'/\a6c P G N aft rest (fps++[(ex++(d.toList++a6d aft.2 st xs i),Wop st d i)]) K st') (c9t P G N aft ex d xs rest fps K st st')
 | _,_=>False
@[congr] theorem e71 {ex:List Nat} {i:IOp} {o o':Option (List X)} {e e':Option St} (h:o=o') (h2:e=e'):dE P G N aft ex d i rest fps K st o e=dE P G N aft ex d i rest fps K st o' e':=by rw [h,h2]
@[go_sem] theorem f2l {ex:List Nat} {i:IOp} {xs:List X} {st':St}:dE P G N aft ex d i rest fps K st (some xs) (some st')=c8x (d9b N st i) ((∀ t∈ex++(d.toList++a0v st xs),t < N)/\(∀ t∈Wop st d i,t < N)/\fr N (Wop st d i) st st'/\a6b aft.2 st'/\a6c P G N aft rest (fps++[(ex++(d.toList++a6d aft.2 st xs i),Wop st d i)]) K st') (c9t P G N aft ex d xs rest fps K st st'):=(rfl)
@[go_sem] theorem f2s {i:IOp}:a6c P G N aft (⟨d,.op i,none⟩::rest) fps K st=dE P G N aft [] d i rest fps K st (b1t i) (evS G N d i st):=by
 simp only [a6c,c6g,dE]
 cases b1t i<;>cases evS G N d i st<;>rfl
def dGd (P:Program) (G:GG) (N:Nat) (aft:DA) (v:AV) (want:Bool) (t:Nat) (d:Option Nat) (i:IOp) (rest:List AO) (fps:List (List Nat×List Nat)) (K:St->Prop) (st:St):Prop:=match v with
 | .lit v=>if b5j want v then dE P G N aft [t] d i rest fps K st (b1t i) (evS G N d i st) else (∀ u∈t::d.toList,u < N)/\a6b aft.2 (a2o d st)/\a6c P G N aft rest (fps++[([t],d.toList)]) K (a2o d st)
 | _=>False
section
variable {t:Nat} {i:IOp}
@[congr] theorem e03 {v v':AV} {w:Bool} (h:v=v'):dGd P G N aft v w t d i rest fps K st=dGd P G N aft v' w t d i rest fps K st:=by rw [h]
@[go_sem] theorem f9u {j:Nat} {want:Bool}:a6c P G N aft (⟨d,.op i,some (j,t,want)⟩::rest) fps K st=dGd P G N aft (st.s t) want t d i rest fps K st:=by
 simp only [a6c,dGd]
 cases st.s t<;>try rfl
@[go_sem] theorem f9t:dGd P G N aft (.lit (.bool true)) true t d i rest fps K st=dE P G N aft [t] d i rest fps K st (b1t i) (evS G N d i st):=(rfl)
@[go_sem] theorem f9q:dGd P G N aft (.lit (.bool false)) false t d i rest fps K st=dE P G N aft [t] d i rest fps K st (b1t i) (evS G N d i st):=(rfl)
@[go_sem] theorem f9s:dGd P G N aft (.lit (.bool true)) false t d i rest fps K st=((∀ u∈t::d.toList,u < N)/\a6b aft.2 (a2o d st)/\a6c P G N aft rest (fps++[([t],d.toList)]) K (a2o d st)):=(rfl)
@[go_sem] theorem f9r:dGd P G N aft (.lit (.bool false)) true t d i rest fps K st=((∀ u∈t::d.toList,u < N)/\a6b aft.2 (a2o d st)/\a6c P G N aft rest (fps++[([t],d.toList)]) K (a2o d st)):=(rfl)
end
def c25 (P:Program) (G:GG) (N:Nat) (aft:DA) (d:Option Nat) (f:FuncId) (pre:List AV) (rd:List Nat) (rest:List AO) (fps:List (List Nat×List Nat)) (K:St->Prop) (st st1 st2:St):Prop:=
 ∃ res W,ACalls P G f pre res/\noRef res=true/\(∀ t∈rd,t < N)/\(∀ t∈W,t < N)/\fr N W st (a9w (if a0x res then st1 else st2) N d res)/\a6b aft.2 (a9w (if a0x res then st1 else st2) N d res)/\a6c P G N aft rest (fps++[(rd,W)]) K (a9w (if a0x res then st1 else st2) N d res)
def d6u (P:Program) (G:GG) (N:Nat) (aft:DA) (d:Option Nat) (f:FuncId) (args:List (Bool×X)) (rest:List AO) (fps:List (List Nat×List Nat)) (K:St->Prop) (st:St) (o1 o2:Option St):Prop:=match o1,o2 with
 | some st1,some st2=>c25 P G N aft d f (a4v N args.length st2) (d.toList++a0v st (args.map (·.2))) rest fps K st st1 st2
 | _,_=>False
def e0v (P:Program) (G:GG) (N:Nat) (aft:DA) (d:Option Nat) (f:FuncId) (args:List (Bool×X)) (rest:List AO) (fps:List (List Nat×List Nat)) (K:St->Prop) (st:St) (o1:Option St):Prop:=d6u P G N aft d f args rest fps K st o1 (pss N (N+2) args o1)
section
variable {f:FuncId} {args:List (Bool×X)}
@[congr] theorem d6t {o o':Option St} (h:o=o'):e0v P G N aft d f args rest fps K st o=e0v P G N aft d f args rest fps K st o':=by rw [h]
@[congr] theorem d6v {o1 o o':Option St} (h:o=o'):d6u P G N aft d f args rest fps K st o1 o=d6u P G N aft d f args rest fps K st o1 o':=by rw [h]
@[congr] theorem d6s {pre pre':List AV} {rd rd':List Nat} {st1 st2:St} (h:pre=pre') (h2:rd=rd'):c25 P G N aft d f pre rd rest fps K st st1 st2=c25 P G N aft d f pre' rd' rest fps K st st1 st2:=by rw [h,h2]
@[go_sem] theorem e0w {st1:St}:e0v P G N aft d f args rest fps K st (some st1)=d6u P G N aft d f args rest fps K st (some st1) (pss N (N+2) args (some st1)):=(rfl)
@[go_sem] theorem e0x {st1 st2:St}:d6u P G N aft d f args rest fps K st (some st1) (some st2)=c25 P G N aft d f (a4v N args.length st2) (d.toList++a0v st (args.map (·.2))) rest fps K st st1 st2:=(rfl)
@[go_sem] theorem e04 {tys:List TypeId}:a6c P G N aft (⟨d,.call f args tys,none⟩::rest) fps K st=e0v P G N aft d f args rest fps K st (gvs N (N+2) args (some st)):=by
 simp only [a6c,c6g,e0v,d6u,c25]
 cases gvs N (N+2) args (some st) with
 | none=>rfl
 | some st1=>
  simp only
  cases pss N (N+2) args (some st1)<;>rfl
theorem a0y {pre:List AV} {rd:List Nat} {st1 st2:St} {res:AV} (hA:ACalls P G f pre res) (hn:noRef res=true) (hi:a0x res=true) (hrd:∀ t∈rd,t < N) (W:List Nat) (hW:∀ t∈W,t < N) (hf:fr N W st (a9w st1 N d res)) (h:a6b aft.2 (a9w st1 N d res)/\a6c P G N aft rest (fps++[(rd,W)]) K (a9w st1 N d res)):c25 P G N aft d f pre rd rest fps K st st1 st2:=
 ⟨res,W,hA,hn,hrd,hW,by rw [hi]; exact hf,by rw [hi]; exact h⟩
theorem c26 {pre:List AV} {rd:List Nat} {st1 st2:St} {res:AV} (hA:ACalls P G f pre res) (hn:noRef res=true) (hi:a0x res=false) (hrd:∀ t∈rd,t < N) (W:List Nat) (hW:∀ t∈W,t < N) (hf:fr N W st (a9w st2 N d res)) (h:a6b aft.2 (a9w st2 N d res)/\a6c P G N aft rest (fps++[(rd,W)]) K (a9w st2 N d res)):c25 P G N aft d f pre rd rest fps K st st1 st2:=
 ⟨res,W,hA,hn,hrd,hW,by rw [hi]; exact hf,by rw [hi]; exact h⟩
end
section
variable {W:List Nat} {st1:St} {t:Nat} {v:AV}
def frI (b:Bool) (p q:Prop):Prop:=if b then p else q
@[congr] theorem e2g {b b':Bool} {p q:Prop} (h:b=b'):frI b p q=frI b' p q:=by rw [h]
@[go_sem] theorem g3a {p q:Prop}:frI true p q=p:=by simp [frI]
def frX (N:Nat) (W:List Nat) (st st':St):Prop:=fr N W st st'
@[go_sem] theorem f4c:fr N W st st=True:=by simp [fr,agr.refl]
theorem d0o {st2 st3:St} (h:∀ u,u < N->u ∉ W->agr st2 st3 u):fr N W st st2=fr N W st st3:=by
 apply propext
 constructor
 ·intro h2 u hu hw; exact (h2 u hu hw).trans (h u hu hw)
 ·intro h2 u hu hw; exact (h2 u hu hw).trans (h u hu hw).symm
@[go_sem] theorem g0m:fr N W st (st1.put t v)=frI (W.contains t||decide (N<=t)) (fr N W st st1) (frX N W st (st1.put t v)):=by
 simp only [frI,frX]
 split
 ·rename_i h
  refine d0o fun u hu hw=>(agr.putn v ?_).symm
  rintro rfl
  simp at h
  rcases h with h | h
  ·exact hw h
  ·omega
 ·rfl
@[go_sem] theorem g0n:fr N W st (st1.set t v)=frI (W.contains t||decide (N<=t)) (fr N W st st1) (frX N W st (st1.set t v)):=by
 simp only [frI,frX]
 split
 ·rename_i h
  refine d0o fun u hu hw=>(agr.setn v ?_).symm
  rintro rfl
  simp at h
  rcases h with h | h
  ·exact hw h
  ·omega
 ·rfl
@[go_sem] theorem f4d {M:Nat}:fr N W st (st1.thru M t v)=frI ((W.contains t||decide (N<=t))&&decide (N<=M)) (fr N W st st1) (frX N W st (st1.thru M t v)):=by
 simp only [frI,frX]
 split
 ·rename_i h
  simp only [Bool.and_eq_true,Bool.or_eq_true,decide_eq_true_eq,List.contains_iff_mem] at h
  refine d0o fun u hu hw=> ?_
  have h1:u≠M:=by omega
  have h2:u≠t:=by
   rintro rfl
   rcases h.1 with h | h
   ·exact hw h
   ·omega
  exact (((agr.putn v h1).trans (agr.putn _ h1)).trans (agr.putn v h2)).symm
 ·rfl
@[go_sem] theorem e8t:fr N W st (st1.clear N)=fr N W st st1:=by
 refine d0o fun u hu _=> ?_
 simp [agr,St.clear,hu]
end
end
@[congr] theorem d65 {b b':Bool} {p q:Prop} (h:b=b'):c8x b p q=c8x b' p q:=by rw [h]
@[go_sem] theorem f9w {p q:Prop}:c8x true p q=p:=by simp [c8x]
section
variable {P:Program} {G:GG} {N:Nat} {aft:DA} {fps:List (List Nat×List Nat)} {K:St->Prop} {st st':St} {d:Option Nat} {rest:List AO} {ex:List Nat} {xs:List X}
@[go_sem] theorem f9v {p:Prop}:c8x false p (c9t P G N aft ex d xs rest fps K st st')=((∀ t∈ex++(d.toList++a0v st xs),t < N)/\a6b aft.2 st'/\a6c P G N aft rest (fps++[(ex++d0q N,d0q N)]) K st'):=by simp only [c8x,c9t,Bool.false_eq_true,if_false]
end
@[go_sem] theorem f01 {st:St} {xs:List X} {i:IOp}:a6d [] st xs i=a0v st xs:=by unfold a6d; split<;>simp
@[go_sem] theorem f7s {V:List (Nat×Nat)} {p:Nat×Nat} {st:St} {xs:List X} {t:Nat}:a6d (p::V) st xs (.mv (.t t))=if (p::V).any (fun p=>p.1==t) then [] else a0v st xs:=(rfl)
section
variable {V:List (Nat×Nat)} {st:St} {xs:List X}
@[go_sem] theorem f0o {z0:X}:a6d V st xs (.asg z0)=a0v st xs:=(rfl)
@[go_sem] theorem f0y {z0:X}:a6d V st xs (.mva z0)=a0v st xs:=(rfl)
@[go_sem] theorem f00 {z0:X}:a6d V st xs (.mvf z0)=a0v st xs:=(rfl)
@[go_sem] theorem e5k {z0:X} {z1:X} {z2:X}:a6d V st xs (.pick z0 z1 z2)=a0v st xs:=(rfl)
@[go_sem] theorem d8o {z0:TypeId} {z1:List AV}:a6d V st xs (.alloc z0 z1)=a0v st xs:=(rfl)
@[go_sem] theorem f0q {z0:TypeId} {z1:Nat} {z2:X}:a6d V st xs (.box z0 z1 z2)=a0v st xs:=(rfl)
@[go_sem] theorem d8p {z0:TypeId} {z1:List AV} {z2:List (Nat×Nat×Nat×X)}:a6d V st xs (.build z0 z1 z2)=a0v st xs:=(rfl)
@[go_sem] theorem d5a {z0:TypeId} {z1:TypeId} {z2:Nat} {z3:Nat} {z4:List AV} {z5:List (Nat×X)}:a6d V st xs (.bslice z0 z1 z2 z3 z4 z5)=a0v st xs:=(rfl)
@[go_sem] theorem e5h {z0:TypeId} {z1:Option Nat} {z2:X}:a6d V st xs (.load z0 z1 z2)=a0v st xs:=(rfl)
@[go_sem] theorem d8v {z0:TypeId} {z1:Nat} {z2:X} {z3:X}:a6d V st xs (.store z0 z1 z2 z3)=a0v st xs:=(rfl)
@[go_sem] theorem d8t {z0:X}:a6d V st xs (.nilck z0)=a0v st xs:=(rfl)
@[go_sem] theorem f0p {z0:BinOp} {z1:TypeId} {z2:Nat} {z3:X} {z4:X} {z5:TypeId}:a6d V st xs (.bin z0 z1 z2 z3 z4 z5)=a0v st xs:=(rfl)
@[go_sem] theorem f7t {z0:UnOp} {z1:TypeId} {z2:X}:a6d V st xs (.un z0 z1 z2)=a0v st xs:=(rfl)
@[go_sem] theorem f0r {z0:BinOp} {z1:TypeId} {z2:TypeId} {z3:TypeId} {z4:X} {z5:X} {z6:TypeId}:a6d V st xs (.eqs z0 z1 z2 z3 z4 z5 z6)=a0v st xs:=(rfl)
@[go_sem] theorem e5g {z0:TypeId} {z1:TypeId} {z2:CK} {z3:X}:a6d V st xs (.conv z0 z1 z2 z3)=a0v st xs:=(rfl)
@[go_sem] theorem f0w {z0:TypeId} {z1:X}:a6d V st xs (.mki z0 z1)=a0v st xs:=(rfl)
@[go_sem] theorem f0v {z0:FuncId} {z1:List X} {z2:List X}:a6d V st xs (.mkf z0 z1 z2)=a0v st xs:=(rfl)
@[go_sem] theorem f0x {z0:TypeId} {z1:TypeId} {z2:Nat} {z3:Nat} {z4:List AV} {z5:X} {z6:X}:a6d V st xs (.mks z0 z1 z2 z3 z4 z5 z6)=a0v st xs:=(rfl)
@[go_sem] theorem d8u {z0:TypeId} {z1:Nat} {z2:X} {z3:Option X} {z4:Option X} {z5:Option X}:a6d V st xs (.slice z0 z1 z2 z3 z4 z5)=a0v st xs:=(rfl)
@[go_sem] theorem d8q {z0:TypeId} {z1:Nat} {z2:X} {z3:Nat}:a6d V st xs (.faddr z0 z1 z2 z3)=a0v st xs:=(rfl)
@[go_sem] theorem d8n {z0:TypeId} {z1:Nat} {z2:X} {z3:Nat}:a6d V st xs (.aaddr z0 z1 z2 z3)=a0v st xs:=(rfl)
@[go_sem] theorem d8r {z0:TypeId} {z1:Nat} {z2:X} {z3:X}:a6d V st xs (.iaddr z0 z1 z2 z3)=a0v st xs:=(rfl)
@[go_sem] theorem f0t {z0 z1 z3:Nat} {z2:X}:a6d V st xs (.fld z0 z1 z2 z3)=a0v st xs:=(rfl)
@[go_sem] theorem d8s {z0:Nat}:a6d V st xs (.mkmap z0)=a0v st xs:=(rfl)
@[go_sem] theorem e5i {z0 z1:Nat} {z2:List AV} {z3 z4:X}:a6d V st xs (.mget z0 z1 z2 z3 z4)=a0v st xs:=(rfl)
@[go_sem] theorem e5j {z0 z1:Nat} {z2 z3 z4:X}:a6d V st xs (.mset z0 z1 z2 z3 z4)=a0v st xs:=(rfl)
@[go_sem] theorem f0s {z0:X} {z1:Nat}:a6d V st xs (.ext z0 z1)=a0v st xs:=(rfl)
@[go_sem] theorem f02 {z0:X} {z1:TypeId} {z2:TypeId} {z3:List AV}:a6d V st xs (.tas z0 z1 z2 z3)=a0v st xs:=(rfl)
@[go_sem] theorem f0u {z0:TypeId} {z1:Bool} {z2:X}:a6d V st xs (.len z0 z1 z2)=a0v st xs:=(rfl)
@[go_sem] theorem f0n {z0:TypeId} {z1:TypeId} {z2:Nat} {z3:Nat} {z4:X} {z5:X}:a6d V st xs (.app z0 z1 z2 z3 z4 z5)=a0v st xs:=(rfl)
@[go_sem] theorem f7r {z0:Bool} {z1:List TypeId} {z2:List X}:a6d V st xs (.mm z0 z1 z2)=a0v st xs:=(rfl)
@[go_sem] theorem f0z {v:Value}:a6d V st xs (.mv (.c v))=a0v st xs:=(rfl)
end
section
variable {v:Value} {n sz o t lo e':Nat} {ks a c:List AV} {q:List Nat} {T:TypeId} {k:AV} {f:FuncId}
@[go_sem] theorem d26:a2m .dead=none:=(rfl)
@[go_sem] theorem d6b:a2m (.lit v)=none:=(rfl)
@[go_sem] theorem e0a:a2m (.sl n ks)=none:=(rfl)
@[go_sem] theorem d99:a2m (.ip ks o)=none:=(rfl)
@[go_sem] theorem d6c:a2m (.own sz n ks)=none:=(rfl)
@[go_sem] theorem d6f:a2m (.var ks)=none:=(rfl)
@[go_sem] theorem d58:a2m (.agg ks)=none:=(rfl)
@[go_sem] theorem d6e:a2m (.tup ks)=none:=(rfl)
@[go_sem] theorem d6a:a2m (.ifc T k)=none:=(rfl)
@[go_sem] theorem d98:a2m (.fn f a c)=none:=(rfl)
@[go_sem] theorem d6d:a2m (.ref t q o e')=some t:=(rfl)
@[go_sem] theorem d59:a2m (.bor t q lo n e')=some t:=(rfl)
end
attribute [go_sem] b1t a0v a8l slL slX Wop wrE Option.toList_some Option.toList_none d9b List.forall_mem_cons
end Go.Ideal
end
