/- Part Qao of the proof: walks on a machine that is proved sound. -/
import Derived.Test.YtlemfkimffoiiaaGreatDoorQam
import Derived.Test.YtlemfkimffoiiaaGreatDoorQai
set_option linter.unusedVariables false
set_option linter.unusedSimpArgs false
set_option maxRecDepth 200000
section
namespace Go.Ideal.Tryz
attribute [local go_sem] eD eT eV
section
variable {G:GG} {bk:Nat->Nat×Nat} {Q:Exit->St->Prop} {st:St}
theorem d5g (hS:Sent3 G bk) {args:List Int} {a:Ds} (ha:(a.shape).length < 2 ^ 62) (hb:(args).length < 2 ^ 62)
  (h:st.s 0=slI args/\st.s 3= .var (eD a)/\st.s 6= .var [slI args,lb a.wide]/\st.s 4=zD/\st.s 5= .lit .nilIface/\st.s 17= .own 2 2 [slI a.shape,lb a.wide,slI args,lb a.wide]/\st.s 18=li 2/\st.s 19=li 0)
  (hbad:∀ e:Er,e≠ .nil->a50 args a=(dn,e)->∀ s,s.s 4= .var [.sl 0 [],lb false]/\s.s 5=a0t bk e->Q .ret s)
  (hex:a1a (a.shape)= .nil->a1a (args)= .nil->∀ s,s.s 0=slI args/\s.s 3= .var (eD a)/\s.s 6= .var [slI args,lb a.wide]/\s.s 4=zD/\s.s 5= .lit .nilIface->Q (.exit 0) s):AW pg G 39 (.loop a33) Q st:=by
 refine a1c Nat (fun i st=>i<=2/\(1<=i->a1a (a.shape)= .nil)/\(2<=i->a1a (args)= .nil)/\st.s 0=slI args/\st.s 3= .var (eD a)/\st.s 6= .var [slI args,lb a.wide]/\st.s 4=zD/\st.s 5= .lit .nilIface/\st.s 17= .own 2 2 [slI a.shape,lb a.wide,slI args,lb a.wide]/\st.s 18=li 2/\st.s 19=li i) (fun i=>2 - i) 0 ⟨by omega,by omega,by omega,h⟩ ?_
 clear h
 rintro i st K ⟨hi,h1,h2,h⟩ hK
 obtain rfl | rfl | rfl:i=0\/i=1\/i=2:=by omega
 ·simp (disch:=omega) [go_sem,a33,h]
  refine a0j (a04 hS (a.shape) a.wide ha) (a0o _) (by simp (disch:=omega) [go_sem,h]) ?_
  by_cases he:a1a (a.shape)= .nil
  ·simp (disch:=omega) [go_sem,h,he,Er.isNil]
   refine hK 1 _ ⟨by omega,fun _=>he,by omega,by simp (disch:=omega) [go_sem,h]⟩ (by omega)
  ·have he':=a3c he
   simp (disch:=omega) [go_sem,h,he']
   exact hbad _ he (by simp only [a50,chk,he']; rfl) _ (by simp (disch:=omega) [go_sem,h])
 ·simp (disch:=omega) [go_sem,a33,h]
  have ea:=h1 (by omega)
  refine a0j (a04 hS (args) a.wide hb) (a0o _) (by simp (disch:=omega) [go_sem,h]) ?_
  by_cases he:a1a (args)= .nil
  ·simp (disch:=omega) [go_sem,h,he,Er.isNil]
   refine hK 2 _ ⟨by omega,fun _=>ea,fun _=>he,by simp (disch:=omega) [go_sem,h]⟩ (by omega)
  ·have he':=a3c he
   simp (disch:=omega) [go_sem,h,he']
   exact hbad _ he (by simp only [a50,chk,he',ea,Er.isNil]; rfl) _ (by simp (disch:=omega) [go_sem,h])
 ·simp (disch:=omega) [go_sem,a33,h]
  exact hex (h1 (by omega)) (h2 (by omega)) _ (by simp (disch:=omega) [go_sem,h])
theorem e5q (hS:SentO G bk) (args:List Int) (a:Ds) (ha:a.shape.length < 2 ^ 40) (hb:args.length < 2 ^ 40):ACalls pg G b8i [slI args,.agg (eD a)] (b25 bk (a50 args a)):=by
 have h7:=hS.val 0 (by decide)
 refine b4f rfl ?_
 simp (disch:=omega) [go_sem,b2e]
 refine a0b ?_
 simp (disch:=omega) [go_sem]
 refine a0y (b1f args hb) rfl (by simp only [a0x,a03,a1q,Bool.and_true]) (by simp) [11] (by simp) (by simp (disch:=omega) [go_sem]) ?_
 simp (disch:=omega) [go_sem]
 refine a0d (by decide) fun s2 hs2 he2=> ?_
 simp (disch:=omega) [go_sem,hs2,a6w,a0h]
 refine d5g hS.three (args:=args) (a:=a) (by omega) (by omega) (by simp (disch:=omega) [go_sem,hs2]) (fun e he hm s h=> ?_) (fun ea eb s h=> ?_)
 ·rw [hm]
  simp (disch:=omega) [go_sem,h,dn]
 simp (disch:=omega) [go_sem,h]
 refine a0e (b26 hS.three a.shape (by omega)) rfl rfl ?_
 simp (disch:=omega) [go_sem,h]
 refine a0e (b26 hS.three args (by omega)) rfl rfl ?_
 by_cases hq:a2w a.shape=a2w args
 ·simp (disch:=omega) [go_sem,h,hq,a50,chk,ea,eb,Er.isNil,a0t]
 ·simp (disch:=omega) [go_sem,h,hq]
  refine a0b ?_
  simp (disch:=omega) [go_sem,h,h7]
  refine a0d (by decide) fun s3 hs3 he3=> ?_
  simp (disch:=omega) [go_sem,hs3,h,h7,hq,a50,chk,ea,eb,Er.isNil,a0t,bad,dn]
theorem sl1 (a:Ds):slD [a]= .sl 1 [slI a.shape,lb a.wide]:=rfl
theorem sl2 (a b:Ds):slD [a,b]= .sl 2 [slI a.shape,lb a.wide,slI b.shape,lb b.wide]:=rfl
theorem d4t (a b:Ds) (ha:a.shape.length < 2 ^ 40) (hb:b.shape.length < 2 ^ 40):ACalls pg G a5t [li 16,slD [a,b]] (.tup [.agg (eD (a27 16 [a,b]).1),lb (a27 16 [a,b]).2]):=by
 have hr:a27 16 [a,b]=(a,decide (0 < a.shape.length/\a.wide=false/\b=⟨[256],true⟩)):=rfl
 rw [hr,sl2]
 refine ACalls.shown (res:= .tup [.agg [owI a.shape,lb a.wide],lb (decide (0 < a.shape.length/\a.wide=false/\b=⟨[256],true⟩))]) ?_ (by simp [go_sem,frz,a1k,owI])
 refine a1z rfl ?_
 simp (disch:=omega) [go_sem,a2h]
 refine a0e (a2s a.shape a.wide ha) rfl (by simp only [owI,a0x,a03,a1q,Bool.and_true]) ?_
 by_cases c1:0 < a.shape.length
 ·cases hw:a.wide
  ·simp (disch:=omega) [go_sem,c1,hw,a6w,a0h]
   refine a0e (a40 b ⟨[256],true⟩ (by omega) (by simp)) rfl rfl ?_
   simp (disch:=omega) [go_sem,c1,hw]
  ·simp (disch:=omega) [go_sem,c1,hw]
 ·simp (disch:=omega) [go_sem,c1]
theorem d4u (a b:Ds) (ha:a.shape.length < 2 ^ 40) (hb:b.shape.length < 2 ^ 40):ACalls pg G a5t [li 17,slD [a,b]] (.tup [.agg (eD (a27 17 [a,b]).1),lb (a27 17 [a,b]).2]):=by
 have hr:a27 17 [a,b]=(if a.shape.length=2/\b.shape.length=1/\b.wide=true then (⟨[b.shape[0]!,a.shape[1]!],a.wide⟩,true) else (dn,false)):=rfl
 rw [hr,sl2]
 by_cases c1:a.shape.length=2
 ·by_cases c2:b.shape.length=1
  ·cases hw:b.wide
   ·rw [if_neg (by simp)]
    have c1':(a.shape.length:Int)=2:=by omega
    have c2':(b.shape.length:Int)=1:=by omega
    refine a1z rfl ?_
    simp (disch:=omega) [go_sem,a2h,c1',c2',hw,dn]
   ·rw [if_pos ⟨c1,c2,rfl⟩]
    obtain ⟨ash,aw⟩:=a
    obtain ⟨x,y,rfl⟩:=c0l c1
    obtain ⟨bsh,bw⟩:=b
    obtain ⟨z,rfl⟩:=c5r c2
    obtain rfl:bw=true:=hw
    refine ACalls.shown (res:= .tup [.agg [owI [z,y],lb aw],lb true]) ?_ (by simp [go_sem,frz,a1k,owI])
    refine a1z rfl ?_
    simp (disch:=omega) [go_sem,a2h]
    refine a0b ?_
    simp (disch:=omega) [go_sem,a6w,a0h]
    refine a0d (by decide) fun s2 hs2 hes2=> ?_
    simp (disch:=omega) [go_sem,hs2,a6w,a0h]
  ·rw [if_neg (by simp [c2])]
   have c1':(a.shape.length:Int)=2:=by omega
   have c2':¬ (b.shape.length:Int)=1:=by omega
   refine a1z rfl ?_
   simp (disch:=omega) [go_sem,a2h,c1',c2',dn]
 ·rw [if_neg (by simp [c1])]
  have c1':¬ (a.shape.length:Int)=2:=by omega
  refine a1z rfl ?_
  simp (disch:=omega) [go_sem,a2h,c1',dn]
theorem d4v (op:Int) (h1:¬ op=16) (h2:¬ op=17) (a:Ds) (ha:a.shape.length < 2 ^ 40):ACalls pg G a5t [li op,slD [a]] (.tup [.agg (eD (a27 op [a]).1),lb (a27 op [a]).2]):=by
 have hr:a27 op [a]=(if a.shape.length=0 then (dn,false) else (⟨a.shape.dropLast,true⟩,true)):=by simp only [a27,h1,h2,if_false]; rfl
 rw [hr,sl1]
 by_cases c:a.shape.length=0
 ·rw [if_pos c]
  have c':(a.shape.length:Int)=0:=by omega
  refine a1z rfl ?_
  simp (disch:=omega) [go_sem,a2h,h1,h2,c',dn]
 ·rw [if_neg c]
  obtain ⟨ash,aw⟩:=a
  obtain rfl | ⟨l,x,rfl⟩:ash=[]\/∃ l x,ash=l++[x]:=by
   rcases List.eq_nil_or_concat ash with h | ⟨l,x,h⟩
   ·exact .inl h
   ·exact .inr ⟨l,x,by simpa using h⟩
  ·exact absurd rfl c
  simp only [List.length_append,List.length_cons,List.length_nil] at ha c
  rw [show (⟨(⟨l++[x],aw⟩:Ds).shape.dropLast,true⟩:Ds)=⟨l,true⟩ by simp]
  refine ACalls.shown (res:= .tup [.agg [owI l,lb true],lb true]) ?_ (by simp [go_sem,frz,a1k,owI])
  refine a1z rfl ?_
  have ht:List.take l.length (List.map li l++[li x])=List.map li l:=by rw [List.take_append_of_le_length (by simp),List.take_of_length_le (by simp)]
  have hd:=b1f (G:=G) l (by omega)
  simp (disch:=omega) [go_sem,a2h,h1,h2,c,ht]
  refine a0e hd rfl (by simp only [owI,a0x,a03,a1q,Bool.and_true]) ?_
  simp (disch:=omega) [go_sem]
end
end Go.Ideal.Tryz
end
section
namespace Go.Ideal
def d6z (P:Program) (G:GG) (N:Nat) (aft:DA) (t:Nat) (d:Option Nat) (f:FuncId) (args:List (Bool×X)) (rest:List AO) (fps:List (List Nat×List Nat)) (K:St->Prop) (st:St) (o1 o2:Option St):Prop:=match o1,o2 with
 | some st1,some st2=>c25 P G N aft d f (a4v N args.length st2) (t::(d.toList++a0v st (args.map (·.2)))) rest fps K st st1 st2
 | _,_=>False
def d3s (P:Program) (G:GG) (N:Nat) (aft:DA) (t:Nat) (d:Option Nat) (f:FuncId) (args:List (Bool×X)) (rest:List AO) (fps:List (List Nat×List Nat)) (K:St->Prop) (st:St) (o1:Option St):Prop:=d6z P G N aft t d f args rest fps K st o1 (pss N (N+2) args o1)
def dGc (P:Program) (G:GG) (N:Nat) (aft:DA) (v:AV) (want:Bool) (t:Nat) (d:Option Nat) (f:FuncId) (args:List (Bool×X)) (rest:List AO) (fps:List (List Nat×List Nat)) (K:St->Prop) (st:St):Prop:=match v with
 | .lit v=>if b5j want v then d3s P G N aft t d f args rest fps K st (gvs N (N+2) args (some st)) else (∀ u∈t::d.toList,u < N)/\a6b aft.2 (a2o d st)/\a6c P G N aft rest (fps++[([t],d.toList)]) K (a2o d st)
 | _=>False
section
variable {P:Program} {G:GG} {N:Nat} {aft:DA} {d:Option Nat} {i:IOp} {rest:List AO} {fps:List (List Nat×List Nat)} {K:St->Prop} {st:St} {t:Nat} {f:FuncId} {args:List (Bool×X)}
@[go_sem] theorem f3x {T:TypeId} {s u:Nat} {x:X}:evS G N none (.stf T s x (.t u)) st=evS G N none (.store T s x (.t u)) (st.set u (frz (st.s u))):=(rfl)
@[go_sem] theorem g28 {w:Bool}:dGd P G N aft (.lit undef) w t d i rest fps K st=((∀ u∈t::d.toList,u < N)/\a6b aft.2 (a2o d st)/\a6c P G N aft rest (fps++[([t],d.toList)]) K (a2o d st)):=(rfl)
@[congr] theorem e02 {v v':AV} {w:Bool} (h:v=v'):dGc P G N aft v w t d f args rest fps K st=dGc P G N aft v' w t d f args rest fps K st:=by rw [h]
@[congr] theorem d6y {o o':Option St} (h:o=o'):d3s P G N aft t d f args rest fps K st o=d3s P G N aft t d f args rest fps K st o':=by rw [h]
@[congr] theorem d60 {o1 o o':Option St} (h:o=o'):d6z P G N aft t d f args rest fps K st o1 o=d6z P G N aft t d f args rest fps K st o1 o':=by rw [h]
@[go_sem] theorem e00 {st1:St}:d3s P G N aft t d f args rest fps K st (some st1)=d6z P G N aft t d f args rest fps K st (some st1) (pss N (N+2) args (some st1)):=(rfl)
@[go_sem] theorem e01 {st1 st2:St}:d6z P G N aft t d f args rest fps K st (some st1) (some st2)=c25 P G N aft d f (a4v N args.length st2) (t::(d.toList++a0v st (args.map (·.2)))) rest fps K st st1 st2:=(rfl)
@[go_sem] theorem f9p:dGc P G N aft (.lit (.bool true)) true t d f args rest fps K st=d3s P G N aft t d f args rest fps K st (gvs N (N+2) args (some st)):=(rfl)
@[go_sem] theorem f9m:dGc P G N aft (.lit (.bool false)) false t d f args rest fps K st=d3s P G N aft t d f args rest fps K st (gvs N (N+2) args (some st)):=(rfl)
@[go_sem] theorem f9o:dGc P G N aft (.lit (.bool true)) false t d f args rest fps K st=((∀ u∈t::d.toList,u < N)/\a6b aft.2 (a2o d st)/\a6c P G N aft rest (fps++[([t],d.toList)]) K (a2o d st)):=(rfl)
@[go_sem] theorem f9n:dGc P G N aft (.lit (.bool false)) true t d f args rest fps K st=((∀ u∈t::d.toList,u < N)/\a6b aft.2 (a2o d st)/\a6c P G N aft rest (fps++[([t],d.toList)]) K (a2o d st)):=(rfl)
@[go_sem] theorem g27 {w:Bool}:dGc P G N aft (.lit undef) w t d f args rest fps K st=((∀ u∈t::d.toList,u < N)/\a6b aft.2 (a2o d st)/\a6c P G N aft rest (fps++[([t],d.toList)]) K (a2o d st)):=(rfl)
@[go_sem] theorem d64 {j:Nat} {want:Bool} {tys:List TypeId}:a6c P G N aft (⟨d,.call f args tys,some (j,t,want)⟩::rest) fps K st=dGc P G N aft (st.s t) want t d f args rest fps K st:=by
 simp only [a6c,dGc]
 cases st.s t<;>try rfl
 rename_i v
 simp only [c6g,d3s,d6z,c25]
 split
 ·cases gvs N (N+2) args (some st) with
  | none=>rfl
  | some st1=>
   simp only
   cases pss N (N+2) args (some st1)<;>rfl
 ·rfl
end
end Go.Ideal
end
section
namespace Go.Ideal.Tryz
attribute [local go_sem] eD eT eV
section
variable {G:GG} {bk:Nat->Nat×Nat} {Q:Exit->St->Prop} {st:St}
theorem b71 (hS:Sent3 G bk) {op:Int} {ins:List Ds} {r:Dr} (hn:ins.length < 2 ^ 40) (hf:∀ d∈ins,d.shape.length < 2 ^ 40)
  (h:st.s 0=li op/\st.s 1=slD ins/\st.s 4=zD/\st.s 5= .lit .nilIface/\st.s 28=slD ins/\st.s 29=li ins.length/\st.s 30=li 0)
  (hbad:∀ e:Er,e≠ .nil->b84 ins r=(dn,e)->∀ s,s.s 4= .var [.sl 0 [],lb false]/\s.s 5=a0t bk e->Q .ret s)
  (hex:b84 ins r=r->∀ s,s.s 0=li op/\s.s 1=slD ins/\s.s 4=zD/\s.s 5= .lit .nilIface->Q (.exit 1) s):AW pg G 58 (.loop a4n) Q st:=by
 refine a1c Nat (fun i st=>i<=ins.length/\b84 ins r=b84 (ins.drop i) r/\st.s 0=li op/\st.s 1=slD ins/\st.s 4=zD/\st.s 5= .lit .nilIface/\st.s 28=slD ins/\st.s 29=li ins.length/\st.s 30=li i) (fun i=>ins.length - i) 0 ⟨by omega,rfl,h⟩ ?_
 clear h
 rintro i st K ⟨hi,hm,h⟩ hK
 by_cases hlt:i < ins.length
 ·rw [List.drop_eq_getElem_cons hlt,b84] at hm
  have hl:=hf _ (List.getElem_mem hlt)
  simp (disch:=omega) [go_sem,a4n,h,hlt]
  refine a0j (a04 hS ins[i].shape ins[i].wide (by omega)) (a0o _) (by simp (disch:=omega) [go_sem,h]) ?_
  by_cases he:a1a ins[i].shape= .nil
  ·simp (disch:=omega) [go_sem,h,he,Er.isNil]
   refine hK (i+1) _ ⟨by omega,by rw [hm,chk,he]; rfl,by simp (disch:=omega) [go_sem,h]⟩ (by omega)
  ·have he':=a3c he
   simp (disch:=omega) [go_sem,h,he']
   exact hbad _ he (by rw [hm,chk,he']; rfl) _ (by simp (disch:=omega) [go_sem,h])
 ·obtain rfl:i=ins.length:=by omega
  rw [List.drop_length,b84] at hm
  simp (disch:=omega) [go_sem,a4n,h]
  exact hex hm _ (by simp (disch:=omega) [go_sem,h])
theorem c3w (hS:SentO G bk) (op:Int) (ins:List Ds) (hf:∀ d∈ins,d.shape.length < 2 ^ 40) (ho:(op=16\/op=17)/\ins.length=2\/(op=19\/op=20)/\ins.length=1):ACalls pg G b6t [li op,slD ins] (b25 bk (c2q op ins)):=by
 have h7:=hS.val 0 (by decide)
 have hl:ACalls pg G a5t [li op,slD ins] (.tup [.agg (eD (a27 op ins).1),lb (a27 op ins).2]):=by
  rcases ho with ⟨h,h2⟩ | ⟨h,h2⟩
  ·obtain ⟨a,b,rfl⟩:=c0l h2
   rcases h with rfl | rfl
   ·exact d4t a b (hf a (by simp)) (hf b (by simp))
   ·exact d4u a b (hf a (by simp)) (hf b (by simp))
  ·obtain ⟨a,rfl⟩:=c5r h2
   exact d4v op (by omega) (by omega) a (hf a (by simp))
 have hn:ins.length < 2 ^ 40:=by omega
 have hlen:(a27 op ins).1.shape.length < 2 ^ 40:=by
  rcases ho with ⟨h,h2⟩ | ⟨h,h2⟩
  ·obtain ⟨a,b,rfl⟩:=c0l h2
   have:=hf a (by simp)
   rcases h with rfl | rfl
   ·exact this
   ·rw [show a27 17 [a,b]=(if a.shape.length=2/\b.shape.length=1/\b.wide=true then (⟨[b.shape[0]!,a.shape[1]!],a.wide⟩,true) else (dn,false)) from rfl]
    split<;>simp [dn]
  ·obtain ⟨a,rfl⟩:=c5r h2
   have:=hf a (by simp)
   have hr:a27 op [a]=(if a.shape.length=0 then (dn,false) else (⟨a.shape.dropLast,true⟩,true)):=by simp only [a27,show ¬ op=16 by omega,show ¬ op=17 by omega,if_false]; rfl
   rw [hr]
   split<;>simp [dn]; omega
 unfold c2q
 generalize a27 op ins=d at *
 obtain ⟨d,ok⟩:=d
 refine b22 rfl ?_
 obtain ⟨rfl,h2⟩ | ⟨rfl,h2⟩ | ⟨rfl,h2⟩ | ⟨rfl,h2⟩:(op=16/\ins.length=2)\/(op=17/\ins.length=2)\/(op=19/\ins.length=1)\/(op=20/\ins.length=1):=by omega
 ·
  simp (disch:=omega) [go_sem,a37,h2]
  refine b71 hS.three (op:=16) (ins:=ins) (r:=if ok=true then b4r d.shape d.wide else bad 6) hn hf (by simp (disch:=omega) [go_sem,h2]) (fun e he hm s h=> ?_) (fun hm s h=> ?_)
  ·rw [hm]
   simp (disch:=omega) [go_sem,h,dn]
  ·rw [hm]
   simp (disch:=omega) [go_sem,h]
   refine a0j hl (by simp [go_sem,noRef]) (by simp (disch:=omega) [go_sem,h]) ?_
   cases ok
   ·simp (disch:=omega) [go_sem,h]
    refine a0b ?_
    simp (disch:=omega) [go_sem,h,h7]
    refine a0d (by decide) fun s2 hs2 he2=> ?_
    simp (disch:=omega) [go_sem,hs2,h,h7,bad,dn,a0t]
   ·simp (disch:=omega) [go_sem,h]
    refine a0j (a04 hS.three d.shape d.wide (by simp at hlen; omega)) (a0o _) (by simp (disch:=omega) [go_sem,h]) ?_
    by_cases he:a1a d.shape= .nil
    ·simp (disch:=omega) [go_sem,h,he,Er.isNil,b4r,chk,a0t]
    ·have he':=a3c he
     simp (disch:=omega) [go_sem,h,he',b4r,chk,dn]
 ·
  simp (disch:=omega) [go_sem,a37,h2]
  refine b71 hS.three (op:=17) (ins:=ins) (r:=if ok=true then b4r d.shape d.wide else bad 6) hn hf (by simp (disch:=omega) [go_sem,h2]) (fun e he hm s h=> ?_) (fun hm s h=> ?_)
  ·rw [hm]
   simp (disch:=omega) [go_sem,h,dn]
  ·rw [hm]
   simp (disch:=omega) [go_sem,h]
   refine a0j hl (by simp [go_sem,noRef]) (by simp (disch:=omega) [go_sem,h]) ?_
   cases ok
   ·simp (disch:=omega) [go_sem,h]
    refine a0b ?_
    simp (disch:=omega) [go_sem,h,h7]
    refine a0d (by decide) fun s2 hs2 he2=> ?_
    simp (disch:=omega) [go_sem,hs2,h,h7,bad,dn,a0t]
   ·simp (disch:=omega) [go_sem,h]
    refine a0j (a04 hS.three d.shape d.wide (by simp at hlen; omega)) (a0o _) (by simp (disch:=omega) [go_sem,h]) ?_
    by_cases he:a1a d.shape= .nil
    ·simp (disch:=omega) [go_sem,h,he,Er.isNil,b4r,chk,a0t]
    ·have he':=a3c he
     simp (disch:=omega) [go_sem,h,he',b4r,chk,dn]
 ·
  simp (disch:=omega) [go_sem,a37,h2]
  refine b71 hS.three (op:=19) (ins:=ins) (r:=if ok=true then b4r d.shape d.wide else bad 6) hn hf (by simp (disch:=omega) [go_sem,h2]) (fun e he hm s h=> ?_) (fun hm s h=> ?_)
  ·rw [hm]
   simp (disch:=omega) [go_sem,h,dn]
  ·rw [hm]
   simp (disch:=omega) [go_sem,h]
   refine a0j hl (by simp [go_sem,noRef]) (by simp (disch:=omega) [go_sem,h]) ?_
   cases ok
   ·simp (disch:=omega) [go_sem,h]
    refine a0b ?_
    simp (disch:=omega) [go_sem,h,h7]
    refine a0d (by decide) fun s2 hs2 he2=> ?_
    simp (disch:=omega) [go_sem,hs2,h,h7,bad,dn,a0t]
   ·simp (disch:=omega) [go_sem,h]
    refine a0j (a04 hS.three d.shape d.wide (by simp at hlen; omega)) (a0o _) (by simp (disch:=omega) [go_sem,h]) ?_
    by_cases he:a1a d.shape= .nil
    ·simp (disch:=omega) [go_sem,h,he,Er.isNil,b4r,chk,a0t]
    ·have he':=a3c he
     simp (disch:=omega) [go_sem,h,he',b4r,chk,dn]
 ·
  simp (disch:=omega) [go_sem,a37,h2]
  refine b71 hS.three (op:=20) (ins:=ins) (r:=if ok=true then b4r d.shape d.wide else bad 6) hn hf (by simp (disch:=omega) [go_sem,h2]) (fun e he hm s h=> ?_) (fun hm s h=> ?_)
  ·rw [hm]
   simp (disch:=omega) [go_sem,h,dn]
  ·rw [hm]
   simp (disch:=omega) [go_sem,h]
   refine a0j hl (by simp [go_sem,noRef]) (by simp (disch:=omega) [go_sem,h]) ?_
   cases ok
   ·simp (disch:=omega) [go_sem,h]
    refine a0b ?_
    simp (disch:=omega) [go_sem,h,h7]
    refine a0d (by decide) fun s2 hs2 he2=> ?_
    simp (disch:=omega) [go_sem,hs2,h,h7,bad,dn,a0t]
   ·simp (disch:=omega) [go_sem,h]
    refine a0j (a04 hS.three d.shape d.wide (by simp at hlen; omega)) (a0o _) (by simp (disch:=omega) [go_sem,h]) ?_
    by_cases he:a1a d.shape= .nil
    ·simp (disch:=omega) [go_sem,h,he,Er.isNil,b4r,chk,a0t]
    ·have he':=a3c he
     simp (disch:=omega) [go_sem,h,he',b4r,chk,dn]
theorem a7t (hS:Sent3 G bk) {op:Int} {args:List Int} {ins:List Ds} {r:Dr} (hn:ins.length < 2 ^ 40) (hf:∀ d∈ins,d.shape.length < 2 ^ 40)
  (h:st.s 0=li op/\st.s 1=slI args/\st.s 2=slD ins/\st.s 8=li ins.length/\st.s 6=zD/\st.s 7= .lit .nilIface/\st.s 40=slD ins/\st.s 41=li ins.length/\st.s 42=li 0)
  (hbad:∀ e:Er,e≠ .nil->b84 ins r=(dn,e)->∀ s,s.s 6= .var [.sl 0 [],lb false]/\s.s 7=a0t bk e->Q .ret s)
  (hex:b84 ins r=r->∀ s,s.s 0=li op/\s.s 1=slI args/\s.s 2=slD ins/\s.s 8=li ins.length/\s.s 6=zD/\s.s 7= .lit .nilIface->Q (.exit 0) s):AW pg G 146 (.loop a4k) Q st:=by
 refine a1c Nat (fun i st=>i<=ins.length/\b84 ins r=b84 (ins.drop i) r/\st.s 0=li op/\st.s 1=slI args/\st.s 2=slD ins/\st.s 8=li ins.length/\st.s 6=zD/\st.s 7= .lit .nilIface/\st.s 40=slD ins/\st.s 41=li ins.length/\st.s 42=li i) (fun i=>ins.length - i) 0 ⟨by omega,rfl,h⟩ ?_
 clear h
 rintro i st K ⟨hi,hm,h⟩ hK
 by_cases hlt:i < ins.length
 ·rw [List.drop_eq_getElem_cons hlt,b84] at hm
  have hl:=hf _ (List.getElem_mem hlt)
  simp (disch:=omega) [go_sem,a4k,h,hlt]
  refine a0j (a04 hS ins[i].shape ins[i].wide (by omega)) (a0o _) (by simp (disch:=omega) [go_sem,h]) ?_
  by_cases he:a1a ins[i].shape= .nil
  ·simp (disch:=omega) [go_sem,h,he,Er.isNil]
   refine hK (i+1) _ ⟨by omega,by rw [hm,chk,he]; rfl,by simp (disch:=omega) [go_sem,h]⟩ (by omega)
  ·have he':=a3c he
   simp (disch:=omega) [go_sem,h,he']
   exact hbad _ he (by rw [hm,chk,he']; rfl) _ (by simp (disch:=omega) [go_sem,h])
 ·obtain rfl:i=ins.length:=by omega
  rw [List.drop_length,b84] at hm
  simp (disch:=omega) [go_sem,a4k,h]
  exact hex hm _ (by simp (disch:=omega) [go_sem,h])
end
end Go.Ideal.Tryz
end
