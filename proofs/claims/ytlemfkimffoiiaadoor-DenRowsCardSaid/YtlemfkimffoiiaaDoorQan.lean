/- Part Qan of the proof: walks on a machine that is proved sound. -/
import Derived.Test.YtlemfkimffoiiaaDoorQal
import Derived.Test.YtlemfkimffoiiaaDoorQah
set_option linter.unusedVariables false
set_option linter.unusedSimpArgs false
set_option maxRecDepth 200000
section
namespace Go.Ideal.Tryd
attribute [local go_sem] eD eT eV
section
variable {G:GG} {bk:Nat->Nat×Nat} {Q:Exit->St->Prop} {st:St}
theorem d3c (hS:Sent3 G bk) {args:List Int} {a:Ds} (ha:(a.shape).length < 2 ^ 62) (hb:(args).length < 2 ^ 62)
  (h:st.s 0=slI args/\st.s 3= .var (eD a)/\st.s 6= .var [slI args,lb a.wide]/\st.s 4=zD/\st.s 5= .lit .nilIface/\st.s 17= .own 2 2 [slI a.shape,lb a.wide,slI args,lb a.wide]/\st.s 18=li 2/\st.s 19=li 0)
  (hbad:∀ e:Er,e≠ .nil->a5s args a=(dn,e)->∀ s,s.s 4= .var [.sl 0 [],lb false]/\s.s 5=a0u bk e->Q .ret s)
  (hex:a07 (a.shape)= .nil->a07 (args)= .nil->∀ s,s.s 0=slI args/\s.s 3= .var (eD a)/\s.s 6= .var [slI args,lb a.wide]/\s.s 4=zD/\s.s 5= .lit .nilIface->Q (.exit 0) s):AW pg G 39 (.loop a31) Q st:=by
 refine a1c Nat (fun i st=>i<=2/\(1<=i->a07 (a.shape)= .nil)/\(2<=i->a07 (args)= .nil)/\st.s 0=slI args/\st.s 3= .var (eD a)/\st.s 6= .var [slI args,lb a.wide]/\st.s 4=zD/\st.s 5= .lit .nilIface/\st.s 17= .own 2 2 [slI a.shape,lb a.wide,slI args,lb a.wide]/\st.s 18=li 2/\st.s 19=li i) (fun i=>2 - i) 0 ⟨by omega,by omega,by omega,h⟩ ?_
 clear h
 rintro i st K ⟨hi,h1,h2,h⟩ hK
 obtain rfl | rfl | rfl:i=0\/i=1\/i=2:=by omega
 ·simp (disch:=omega) [go_sem,a31,h]
  refine a0j (a01 hS (a.shape) a.wide ha) (a0q _) (by simp (disch:=omega) [go_sem,h]) ?_
  by_cases he:a07 (a.shape)= .nil
  ·simp (disch:=omega) [go_sem,h,he,Er.isNil]
   refine hK 1 _ ⟨by omega,fun _=>he,by omega,by simp (disch:=omega) [go_sem,h]⟩ (by omega)
  ·have he':=a3f he
   simp (disch:=omega) [go_sem,h,he']
   exact hbad _ he (by simp only [a5s,chk,he']; rfl) _ (by simp (disch:=omega) [go_sem,h])
 ·simp (disch:=omega) [go_sem,a31,h]
  have ea:=h1 (by omega)
  refine a0j (a01 hS (args) a.wide hb) (a0q _) (by simp (disch:=omega) [go_sem,h]) ?_
  by_cases he:a07 (args)= .nil
  ·simp (disch:=omega) [go_sem,h,he,Er.isNil]
   refine hK 2 _ ⟨by omega,fun _=>ea,fun _=>he,by simp (disch:=omega) [go_sem,h]⟩ (by omega)
  ·have he':=a3f he
   simp (disch:=omega) [go_sem,h,he']
   exact hbad _ he (by simp only [a5s,chk,he',ea,Er.isNil]; rfl) _ (by simp (disch:=omega) [go_sem,h])
 ·simp (disch:=omega) [go_sem,a31,h]
  exact hex (h1 (by omega)) (h2 (by omega)) _ (by simp (disch:=omega) [go_sem,h])
theorem e3k (hS:SentO G bk) (args:List Int) (a:Ds) (ha:a.shape.length < 2 ^ 40) (hb:args.length < 2 ^ 40):ACalls pg G b6y [slI args,.agg (eD a)] (b1t bk (a5s args a)):=by
 have h7:=hS.val 0 (by decide)
 refine b2w rfl ?_
 simp (disch:=omega) [go_sem,b08]
 refine a0b ?_
 simp (disch:=omega) [go_sem]
 refine a06 (a99 args hb) rfl (by simp only [a0w,a02,a19,Bool.and_true]) (by simp) [11] (by simp) (by simp (disch:=omega) [go_sem]) ?_
 simp (disch:=omega) [go_sem]
 refine a0d (by decide) fun s2 hs2 he2=> ?_
 simp (disch:=omega) [go_sem,hs2,a58,a0i]
 refine d3c hS.three (args:=args) (a:=a) (by omega) (by omega) (by simp (disch:=omega) [go_sem,hs2]) (fun e he hm s h=> ?_) (fun ea eb s h=> ?_)
 ·rw [hm]
  simp (disch:=omega) [go_sem,h,dn]
 simp (disch:=omega) [go_sem,h]
 refine a0g (b1v hS.three a.shape (by omega)) rfl rfl ?_
 simp (disch:=omega) [go_sem,h]
 refine a0g (b1v hS.three args (by omega)) rfl rfl ?_
 by_cases hq:a2h a.shape=a2h args
 ·simp (disch:=omega) [go_sem,h,hq,a5s,chk,ea,eb,Er.isNil,a0u]
 ·simp (disch:=omega) [go_sem,h,hq]
  refine a0b ?_
  simp (disch:=omega) [go_sem,h,h7]
  refine a0d (by decide) fun s3 hs3 he3=> ?_
  simp (disch:=omega) [go_sem,hs3,h,h7,hq,a5s,chk,ea,eb,Er.isNil,a0u,bad,dn]
theorem sl1 (a:Ds):slD [a]= .sl 1 [slI a.shape,lb a.wide]:=rfl
theorem sl2 (a b:Ds):slD [a,b]= .sl 2 [slI a.shape,lb a.wide,slI b.shape,lb b.wide]:=rfl
theorem d2q (a b:Ds) (ha:a.shape.length < 2 ^ 40) (hb:b.shape.length < 2 ^ 40):ACalls pg G a5m [li 16,slD [a,b]] (.tup [.agg (eD (a3b 16 [a,b]).1),lb (a3b 16 [a,b]).2]):=by
 have hr:a3b 16 [a,b]=(a,decide (0 < a.shape.length/\a.wide=false/\b=⟨[256],true⟩)):=rfl
 rw [hr,sl2]
 refine ACalls.shown (res:= .tup [.agg [owI a.shape,lb a.wide],lb (decide (0 < a.shape.length/\a.wide=false/\b=⟨[256],true⟩))]) ?_ (by simp [go_sem,frz,a1m,owI])
 refine a1z rfl ?_
 simp (disch:=omega) [go_sem,a2m]
 refine a0g (a2w a.shape a.wide ha) rfl (by simp only [owI,a0w,a02,a19,Bool.and_true]) ?_
 by_cases c1:0 < a.shape.length
 ·cases hw:a.wide
  ·simp (disch:=omega) [go_sem,c1,hw,a58,a0i]
   refine a0g (a4v b ⟨[256],true⟩ (by omega) (by simp)) rfl rfl ?_
   simp (disch:=omega) [go_sem,c1,hw]
  ·simp (disch:=omega) [go_sem,c1,hw]
 ·simp (disch:=omega) [go_sem,c1]
theorem d2r (a b:Ds) (ha:a.shape.length < 2 ^ 40) (hb:b.shape.length < 2 ^ 40):ACalls pg G a5m [li 17,slD [a,b]] (.tup [.agg (eD (a3b 17 [a,b]).1),lb (a3b 17 [a,b]).2]):=by
 have hr:a3b 17 [a,b]=(if a.shape.length=2/\b.shape.length=1/\b.wide=true then (⟨[b.shape[0]!,a.shape[1]!],a.wide⟩,true) else (dn,false)):=rfl
 rw [hr,sl2]
 by_cases c1:a.shape.length=2
 ·by_cases c2:b.shape.length=1
  ·cases hw:b.wide
   ·rw [if_neg (by simp)]
    have c1':(a.shape.length:Int)=2:=by omega
    have c2':(b.shape.length:Int)=1:=by omega
    refine a1z rfl ?_
    simp (disch:=omega) [go_sem,a2m,c1',c2',hw,dn]
   ·rw [if_pos ⟨c1,c2,rfl⟩]
    obtain ⟨ash,aw⟩:=a
    obtain ⟨x,y,rfl⟩:=b8z c1
    obtain ⟨bsh,bw⟩:=b
    obtain ⟨z,rfl⟩:=c3v c2
    obtain rfl:bw=true:=hw
    refine ACalls.shown (res:= .tup [.agg [owI [z,y],lb aw],lb true]) ?_ (by simp [go_sem,frz,a1m,owI])
    refine a1z rfl ?_
    simp (disch:=omega) [go_sem,a2m]
    refine a0b ?_
    simp (disch:=omega) [go_sem,a58,a0i]
    refine a0d (by decide) fun s2 hs2 hes2=> ?_
    simp (disch:=omega) [go_sem,hs2,a58,a0i]
  ·rw [if_neg (by simp [c2])]
   have c1':(a.shape.length:Int)=2:=by omega
   have c2':¬ (b.shape.length:Int)=1:=by omega
   refine a1z rfl ?_
   simp (disch:=omega) [go_sem,a2m,c1',c2',dn]
 ·rw [if_neg (by simp [c1])]
  have c1':¬ (a.shape.length:Int)=2:=by omega
  refine a1z rfl ?_
  simp (disch:=omega) [go_sem,a2m,c1',dn]
theorem d2s (op:Int) (h1:¬ op=16) (h2:¬ op=17) (a:Ds) (ha:a.shape.length < 2 ^ 40):ACalls pg G a5m [li op,slD [a]] (.tup [.agg (eD (a3b op [a]).1),lb (a3b op [a]).2]):=by
 have hr:a3b op [a]=(if a.shape.length=0 then (dn,false) else (⟨a.shape.dropLast,true⟩,true)):=by simp only [a3b,h1,h2,if_false]; rfl
 rw [hr,sl1]
 by_cases c:a.shape.length=0
 ·rw [if_pos c]
  have c':(a.shape.length:Int)=0:=by omega
  refine a1z rfl ?_
  simp (disch:=omega) [go_sem,a2m,h1,h2,c',dn]
 ·rw [if_neg c]
  obtain ⟨ash,aw⟩:=a
  obtain rfl | ⟨l,x,rfl⟩:ash=[]\/∃ l x,ash=l++[x]:=by
   rcases List.eq_nil_or_concat ash with h | ⟨l,x,h⟩
   ·exact .inl h
   ·exact .inr ⟨l,x,by simpa using h⟩
  ·exact absurd rfl c
  simp only [List.length_append,List.length_cons,List.length_nil] at ha c
  rw [show (⟨(⟨l++[x],aw⟩:Ds).shape.dropLast,true⟩:Ds)=⟨l,true⟩ by simp]
  refine ACalls.shown (res:= .tup [.agg [owI l,lb true],lb true]) ?_ (by simp [go_sem,frz,a1m,owI])
  refine a1z rfl ?_
  have ht:List.take l.length (List.map li l++[li x])=List.map li l:=by rw [List.take_append_of_le_length (by simp),List.take_of_length_le (by simp)]
  have hd:=a99 (G:=G) l (by omega)
  simp (disch:=omega) [go_sem,a2m,h1,h2,c,ht]
  refine a0g hd rfl (by simp only [owI,a0w,a02,a19,Bool.and_true]) ?_
  simp (disch:=omega) [go_sem]
end
end Go.Ideal.Tryd
end
section
namespace Go.Ideal
def d4u (P:Program) (G:GG) (N:Nat) (aft:DA) (t:Nat) (d:Option Nat) (f:FuncId) (args:List (Bool×X)) (rest:List AO) (fps:List (List Nat×List Nat)) (K:St->Prop) (st:St) (o1 o2:Option St):Prop:=match o1,o2 with
 | some st1,some st2=>c1i P G N aft d f (a4r N args.length st2) (t::(d.toList++a0v st (args.map (·.2)))) rest fps K st st1 st2
 | _,_=>False
def d1n (P:Program) (G:GG) (N:Nat) (aft:DA) (t:Nat) (d:Option Nat) (f:FuncId) (args:List (Bool×X)) (rest:List AO) (fps:List (List Nat×List Nat)) (K:St->Prop) (st:St) (o1:Option St):Prop:=d4u P G N aft t d f args rest fps K st o1 (pss N (N+2) args o1)
def dGc (P:Program) (G:GG) (N:Nat) (aft:DA) (v:AV) (want:Bool) (t:Nat) (d:Option Nat) (f:FuncId) (args:List (Bool×X)) (rest:List AO) (fps:List (List Nat×List Nat)) (K:St->Prop) (st:St):Prop:=match v with
 | .lit v=>if b3y want v then d1n P G N aft t d f args rest fps K st (gvs N (N+2) args (some st)) else (∀ u∈t::d.toList,u < N)/\a54 aft.2 (a2v d st)/\a55 P G N aft rest (fps++[([t],d.toList)]) K (a2v d st)
 | _=>False
section
variable {P:Program} {G:GG} {N:Nat} {aft:DA} {d:Option Nat} {i:IOp} {rest:List AO} {fps:List (List Nat×List Nat)} {K:St->Prop} {st:St} {t:Nat} {f:FuncId} {args:List (Bool×X)}
@[go_sem] theorem f08 {T:TypeId} {s u:Nat} {x:X}:evS G N none (.stf T s x (.t u)) st=evS G N none (.store T s x (.t u)) (st.set u (frz (st.s u))):=(rfl)
@[go_sem] theorem g0h {w:Bool}:dGd P G N aft (.lit undef) w t d i rest fps K st=((∀ u∈t::d.toList,u < N)/\a54 aft.2 (a2v d st)/\a55 P G N aft rest (fps++[([t],d.toList)]) K (a2v d st)):=(rfl)
@[congr] theorem d80 {v v':AV} {w:Bool} (h:v=v'):dGc P G N aft v w t d f args rest fps K st=dGc P G N aft v' w t d f args rest fps K st:=by rw [h]
@[congr] theorem d4t {o o':Option St} (h:o=o'):d1n P G N aft t d f args rest fps K st o=d1n P G N aft t d f args rest fps K st o':=by rw [h]
@[congr] theorem d4v {o1 o o':Option St} (h:o=o'):d4u P G N aft t d f args rest fps K st o1 o=d4u P G N aft t d f args rest fps K st o1 o':=by rw [h]
@[go_sem] theorem d8y {st1:St}:d1n P G N aft t d f args rest fps K st (some st1)=d4u P G N aft t d f args rest fps K st (some st1) (pss N (N+2) args (some st1)):=(rfl)
@[go_sem] theorem d8z {st1 st2:St}:d4u P G N aft t d f args rest fps K st (some st1) (some st2)=c1i P G N aft d f (a4r N args.length st2) (t::(d.toList++a0v st (args.map (·.2)))) rest fps K st st1 st2:=(rfl)
@[go_sem] theorem f69:dGc P G N aft (.lit (.bool true)) true t d f args rest fps K st=d1n P G N aft t d f args rest fps K st (gvs N (N+2) args (some st)):=(rfl)
@[go_sem] theorem f66:dGc P G N aft (.lit (.bool false)) false t d f args rest fps K st=d1n P G N aft t d f args rest fps K st (gvs N (N+2) args (some st)):=(rfl)
@[go_sem] theorem f68:dGc P G N aft (.lit (.bool true)) false t d f args rest fps K st=((∀ u∈t::d.toList,u < N)/\a54 aft.2 (a2v d st)/\a55 P G N aft rest (fps++[([t],d.toList)]) K (a2v d st)):=(rfl)
@[go_sem] theorem f67:dGc P G N aft (.lit (.bool false)) true t d f args rest fps K st=((∀ u∈t::d.toList,u < N)/\a54 aft.2 (a2v d st)/\a55 P G N aft rest (fps++[([t],d.toList)]) K (a2v d st)):=(rfl)
@[go_sem] theorem g0g {w:Bool}:dGc P G N aft (.lit undef) w t d f args rest fps K st=((∀ u∈t::d.toList,u < N)/\a54 aft.2 (a2v d st)/\a55 P G N aft rest (fps++[([t],d.toList)]) K (a2v d st)):=(rfl)
@[go_sem] theorem d4z {j:Nat} {want:Bool} {tys:List TypeId}:a55 P G N aft (⟨d,.call f args tys,some (j,t,want)⟩::rest) fps K st=dGc P G N aft (st.s t) want t d f args rest fps K st:=by
 simp only [a55,dGc]
 cases st.s t<;>try rfl
 rename_i v
 simp only [c4j,d1n,d4u,c1i]
 split
 ·cases gvs N (N+2) args (some st) with
  | none=>rfl
  | some st1=>
   simp only
   cases pss N (N+2) args (some st1)<;>rfl
 ·rfl
end
end Go.Ideal
end
section
namespace Go.Ideal.Tryd
attribute [local go_sem] eD eT eV
section
variable {G:GG} {bk:Nat->Nat×Nat} {Q:Exit->St->Prop} {st:St}
theorem b6k (hS:Sent3 G bk) {op:Int} {ins:List Ds} {r:Dr} (hn:ins.length < 2 ^ 40) (hf:∀ d∈ins,d.shape.length < 2 ^ 40)
  (h:st.s 0=li op/\st.s 1=slD ins/\st.s 4=zD/\st.s 5= .lit .nilIface/\st.s 28=slD ins/\st.s 29=li ins.length/\st.s 30=li 0)
  (hbad:∀ e:Er,e≠ .nil->b5g ins r=(dn,e)->∀ s,s.s 4= .var [.sl 0 [],lb false]/\s.s 5=a0u bk e->Q .ret s)
  (hex:b5g ins r=r->∀ s,s.s 0=li op/\s.s 1=slD ins/\s.s 4=zD/\s.s 5= .lit .nilIface->Q (.exit 1) s):AW pg G 58 (.loop a4l) Q st:=by
 refine a1c Nat (fun i st=>i<=ins.length/\b5g ins r=b5g (ins.drop i) r/\st.s 0=li op/\st.s 1=slD ins/\st.s 4=zD/\st.s 5= .lit .nilIface/\st.s 28=slD ins/\st.s 29=li ins.length/\st.s 30=li i) (fun i=>ins.length - i) 0 ⟨by omega,rfl,h⟩ ?_
 clear h
 rintro i st K ⟨hi,hm,h⟩ hK
 by_cases hlt:i < ins.length
 ·rw [List.drop_eq_getElem_cons hlt,b5g] at hm
  have hl:=hf _ (List.getElem_mem hlt)
  simp (disch:=omega) [go_sem,a4l,h,hlt]
  refine a0j (a01 hS ins[i].shape ins[i].wide (by omega)) (a0q _) (by simp (disch:=omega) [go_sem,h]) ?_
  by_cases he:a07 ins[i].shape= .nil
  ·simp (disch:=omega) [go_sem,h,he,Er.isNil]
   refine hK (i+1) _ ⟨by omega,by rw [hm,chk,he]; rfl,by simp (disch:=omega) [go_sem,h]⟩ (by omega)
  ·have he':=a3f he
   simp (disch:=omega) [go_sem,h,he']
   exact hbad _ he (by rw [hm,chk,he']; rfl) _ (by simp (disch:=omega) [go_sem,h])
 ·obtain rfl:i=ins.length:=by omega
  rw [List.drop_length,b5g] at hm
  simp (disch:=omega) [go_sem,a4l,h]
  exact hex hm _ (by simp (disch:=omega) [go_sem,h])
theorem c16 (hS:SentO G bk) (op:Int) (ins:List Ds) (hf:∀ d∈ins,d.shape.length < 2 ^ 40) (ho:(op=16\/op=17)/\ins.length=2\/(op=19\/op=20)/\ins.length=1):ACalls pg G b5a [li op,slD ins] (b1t bk (c02 op ins)):=by
 have h7:=hS.val 0 (by decide)
 have hl:ACalls pg G a5m [li op,slD ins] (.tup [.agg (eD (a3b op ins).1),lb (a3b op ins).2]):=by
  rcases ho with ⟨h,h2⟩ | ⟨h,h2⟩
  ·obtain ⟨a,b,rfl⟩:=b8z h2
   rcases h with rfl | rfl
   ·exact d2q a b (hf a (by simp)) (hf b (by simp))
   ·exact d2r a b (hf a (by simp)) (hf b (by simp))
  ·obtain ⟨a,rfl⟩:=c3v h2
   exact d2s op (by omega) (by omega) a (hf a (by simp))
 have hn:ins.length < 2 ^ 40:=by omega
 have hlen:(a3b op ins).1.shape.length < 2 ^ 40:=by
  rcases ho with ⟨h,h2⟩ | ⟨h,h2⟩
  ·obtain ⟨a,b,rfl⟩:=b8z h2
   have:=hf a (by simp)
   rcases h with rfl | rfl
   ·exact this
   ·rw [show a3b 17 [a,b]=(if a.shape.length=2/\b.shape.length=1/\b.wide=true then (⟨[b.shape[0]!,a.shape[1]!],a.wide⟩,true) else (dn,false)) from rfl]
    split<;>simp [dn]
  ·obtain ⟨a,rfl⟩:=c3v h2
   have:=hf a (by simp)
   have hr:a3b op [a]=(if a.shape.length=0 then (dn,false) else (⟨a.shape.dropLast,true⟩,true)):=by simp only [a3b,show ¬ op=16 by omega,show ¬ op=17 by omega,if_false]; rfl
   rw [hr]
   split<;>simp [dn]; omega
 unfold c02
 generalize a3b op ins=d at *
 obtain ⟨d,ok⟩:=d
 refine b1r rfl ?_
 obtain ⟨rfl,h2⟩ | ⟨rfl,h2⟩ | ⟨rfl,h2⟩ | ⟨rfl,h2⟩:(op=16/\ins.length=2)\/(op=17/\ins.length=2)\/(op=19/\ins.length=1)\/(op=20/\ins.length=1):=by omega
 ·
  simp (disch:=omega) [go_sem,a35,h2]
  refine b6k hS.three (op:=16) (ins:=ins) (r:=if ok=true then b27 d.shape d.wide else bad 6) hn hf (by simp (disch:=omega) [go_sem,h2]) (fun e he hm s h=> ?_) (fun hm s h=> ?_)
  ·rw [hm]
   simp (disch:=omega) [go_sem,h,dn]
  ·rw [hm]
   simp (disch:=omega) [go_sem,h]
   refine a0j hl (by simp [go_sem,noRef]) (by simp (disch:=omega) [go_sem,h]) ?_
   cases ok
   ·simp (disch:=omega) [go_sem,h]
    refine a0b ?_
    simp (disch:=omega) [go_sem,h,h7]
    refine a0d (by decide) fun s2 hs2 he2=> ?_
    simp (disch:=omega) [go_sem,hs2,h,h7,bad,dn,a0u]
   ·simp (disch:=omega) [go_sem,h]
    refine a0j (a01 hS.three d.shape d.wide (by simp at hlen; omega)) (a0q _) (by simp (disch:=omega) [go_sem,h]) ?_
    by_cases he:a07 d.shape= .nil
    ·simp (disch:=omega) [go_sem,h,he,Er.isNil,b27,chk,a0u]
    ·have he':=a3f he
     simp (disch:=omega) [go_sem,h,he',b27,chk,dn]
 ·
  simp (disch:=omega) [go_sem,a35,h2]
  refine b6k hS.three (op:=17) (ins:=ins) (r:=if ok=true then b27 d.shape d.wide else bad 6) hn hf (by simp (disch:=omega) [go_sem,h2]) (fun e he hm s h=> ?_) (fun hm s h=> ?_)
  ·rw [hm]
   simp (disch:=omega) [go_sem,h,dn]
  ·rw [hm]
   simp (disch:=omega) [go_sem,h]
   refine a0j hl (by simp [go_sem,noRef]) (by simp (disch:=omega) [go_sem,h]) ?_
   cases ok
   ·simp (disch:=omega) [go_sem,h]
    refine a0b ?_
    simp (disch:=omega) [go_sem,h,h7]
    refine a0d (by decide) fun s2 hs2 he2=> ?_
    simp (disch:=omega) [go_sem,hs2,h,h7,bad,dn,a0u]
   ·simp (disch:=omega) [go_sem,h]
    refine a0j (a01 hS.three d.shape d.wide (by simp at hlen; omega)) (a0q _) (by simp (disch:=omega) [go_sem,h]) ?_
    by_cases he:a07 d.shape= .nil
    ·simp (disch:=omega) [go_sem,h,he,Er.isNil,b27,chk,a0u]
    ·have he':=a3f he
     simp (disch:=omega) [go_sem,h,he',b27,chk,dn]
 ·
  simp (disch:=omega) [go_sem,a35,h2]
  refine b6k hS.three (op:=19) (ins:=ins) (r:=if ok=true then b27 d.shape d.wide else bad 6) hn hf (by simp (disch:=omega) [go_sem,h2]) (fun e he hm s h=> ?_) (fun hm s h=> ?_)
  ·rw [hm]
   simp (disch:=omega) [go_sem,h,dn]
  ·rw [hm]
   simp (disch:=omega) [go_sem,h]
   refine a0j hl (by simp [go_sem,noRef]) (by simp (disch:=omega) [go_sem,h]) ?_
   cases ok
   ·simp (disch:=omega) [go_sem,h]
    refine a0b ?_
    simp (disch:=omega) [go_sem,h,h7]
    refine a0d (by decide) fun s2 hs2 he2=> ?_
    simp (disch:=omega) [go_sem,hs2,h,h7,bad,dn,a0u]
   ·simp (disch:=omega) [go_sem,h]
    refine a0j (a01 hS.three d.shape d.wide (by simp at hlen; omega)) (a0q _) (by simp (disch:=omega) [go_sem,h]) ?_
    by_cases he:a07 d.shape= .nil
    ·simp (disch:=omega) [go_sem,h,he,Er.isNil,b27,chk,a0u]
    ·have he':=a3f he
     simp (disch:=omega) [go_sem,h,he',b27,chk,dn]
 ·
  simp (disch:=omega) [go_sem,a35,h2]
  refine b6k hS.three (op:=20) (ins:=ins) (r:=if ok=true then b27 d.shape d.wide else bad 6) hn hf (by simp (disch:=omega) [go_sem,h2]) (fun e he hm s h=> ?_) (fun hm s h=> ?_)
  ·rw [hm]
   simp (disch:=omega) [go_sem,h,dn]
  ·rw [hm]
   simp (disch:=omega) [go_sem,h]
   refine a0j hl (by simp [go_sem,noRef]) (by simp (disch:=omega) [go_sem,h]) ?_
   cases ok
   ·simp (disch:=omega) [go_sem,h]
    refine a0b ?_
    simp (disch:=omega) [go_sem,h,h7]
    refine a0d (by decide) fun s2 hs2 he2=> ?_
    simp (disch:=omega) [go_sem,hs2,h,h7,bad,dn,a0u]
   ·simp (disch:=omega) [go_sem,h]
    refine a0j (a01 hS.three d.shape d.wide (by simp at hlen; omega)) (a0q _) (by simp (disch:=omega) [go_sem,h]) ?_
    by_cases he:a07 d.shape= .nil
    ·simp (disch:=omega) [go_sem,h,he,Er.isNil,b27,chk,a0u]
    ·have he':=a3f he
     simp (disch:=omega) [go_sem,h,he',b27,chk,dn]
theorem a7f (hS:Sent3 G bk) {op:Int} {args:List Int} {ins:List Ds} {r:Dr} (hn:ins.length < 2 ^ 40) (hf:∀ d∈ins,d.shape.length < 2 ^ 40)
  (h:st.s 0=li op/\st.s 1=slI args/\st.s 2=slD ins/\st.s 8=li ins.length/\st.s 6=zD/\st.s 7= .lit .nilIface/\st.s 40=slD ins/\st.s 41=li ins.length/\st.s 42=li 0)
  (hbad:∀ e:Er,e≠ .nil->b5g ins r=(dn,e)->∀ s,s.s 6= .var [.sl 0 [],lb false]/\s.s 7=a0u bk e->Q .ret s)
  (hex:b5g ins r=r->∀ s,s.s 0=li op/\s.s 1=slI args/\s.s 2=slD ins/\s.s 8=li ins.length/\s.s 6=zD/\s.s 7= .lit .nilIface->Q (.exit 0) s):AW pg G 146 (.loop a4i) Q st:=by
 refine a1c Nat (fun i st=>i<=ins.length/\b5g ins r=b5g (ins.drop i) r/\st.s 0=li op/\st.s 1=slI args/\st.s 2=slD ins/\st.s 8=li ins.length/\st.s 6=zD/\st.s 7= .lit .nilIface/\st.s 40=slD ins/\st.s 41=li ins.length/\st.s 42=li i) (fun i=>ins.length - i) 0 ⟨by omega,rfl,h⟩ ?_
 clear h
 rintro i st K ⟨hi,hm,h⟩ hK
 by_cases hlt:i < ins.length
 ·rw [List.drop_eq_getElem_cons hlt,b5g] at hm
  have hl:=hf _ (List.getElem_mem hlt)
  simp (disch:=omega) [go_sem,a4i,h,hlt]
  refine a0j (a01 hS ins[i].shape ins[i].wide (by omega)) (a0q _) (by simp (disch:=omega) [go_sem,h]) ?_
  by_cases he:a07 ins[i].shape= .nil
  ·simp (disch:=omega) [go_sem,h,he,Er.isNil]
   refine hK (i+1) _ ⟨by omega,by rw [hm,chk,he]; rfl,by simp (disch:=omega) [go_sem,h]⟩ (by omega)
  ·have he':=a3f he
   simp (disch:=omega) [go_sem,h,he']
   exact hbad _ he (by rw [hm,chk,he']; rfl) _ (by simp (disch:=omega) [go_sem,h])
 ·obtain rfl:i=ins.length:=by omega
  rw [List.drop_length,b5g] at hm
  simp (disch:=omega) [go_sem,a4i,h]
  exact hex hm _ (by simp (disch:=omega) [go_sem,h])
end
end Go.Ideal.Tryd
end
