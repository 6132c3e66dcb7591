/- Part Qak of the proof: walks on a machine that is proved sound. -/
import Derived.Test.YtfncabcldhemkaaGreatDoorQai
import Derived.Test.YtfncabcldhemkaaGreatDoorQah
import Derived.Test.YtfncabcldhemkaaGreatDoorQaj
import Derived.Test.YtfncabcldhemkaaGreatDoorQag
set_option linter.unusedVariables false
set_option linter.unusedSimpArgs false
set_option maxHeartbeats 8000000
set_option maxRecDepth 200000
section
namespace Go.Ideal.Tryz
attribute [local go_sem] eD eT eV
section
variable {G:GG} {bk:Nat->Nat×Nat} {Q:Exit->St->Prop} {st:St}
theorem d67 (hS:Sent3 G bk) {args:List Int} {a:Ds} (ha:(a.shape).length < 2 ^ 62) (hb:(args).length < 2 ^ 62)
  (h:st.s 0=slI args/\st.s 3= .var (eD a)/\st.s 6= .var [slI args,lb a.wide]/\st.s 4=zD/\st.s 5= .lit .nilIface/\st.s 17= .own 2 2 [slI a.shape,lb a.wide,slI args,lb a.wide]/\st.s 18=li 2/\st.s 19=li 0)
  (hbad:∀ e:Er,e≠ .nil->a4u args a=(dn,e)->∀ s,s.s 4= .var [.sl 0 [],lb false]/\s.s 5=a05 bk e->Q .ret s)
  (hex:a01 (a.shape)= .nil->a01 (args)= .nil->∀ s,s.s 0=slI args/\s.s 3= .var (eD a)/\s.s 6= .var [slI args,lb a.wide]/\s.s 4=zD/\s.s 5= .lit .nilIface->Q (.exit 0) s):AW pg G 39 (.loop a5h) Q st:=by
 refine a0u Nat (fun i st=>i<=2/\(1<=i->a01 (a.shape)= .nil)/\(2<=i->a01 (args)= .nil)/\st.s 0=slI args/\st.s 3= .var (eD a)/\st.s 6= .var [slI args,lb a.wide]/\st.s 4=zD/\st.s 5= .lit .nilIface/\st.s 17= .own 2 2 [slI a.shape,lb a.wide,slI args,lb a.wide]/\st.s 18=li 2/\st.s 19=li i) (fun i=>2 - i) 0 ⟨by omega,by omega,by omega,h⟩ ?_
 clear h
 rintro i st K ⟨hi,h1,h2,h⟩ hK
 obtain rfl | rfl | rfl:i=0\/i=1\/i=2:=by omega
 ·simp (disch:=omega) [go_sem,a5h,h]
  refine a0g (a1d hS (a.shape) a.wide ha) (a0z _) (by simp (disch:=omega) [go_sem,h]) ?_
  by_cases he:a01 (a.shape)= .nil
  ·simp (disch:=omega) [go_sem,h,he,Er.isNil]
   refine hK 1 _ ⟨by omega,fun _=>he,by omega,by simp (disch:=omega) [go_sem,h]⟩ (by omega)
  ·have he':=a4h he
   simp (disch:=omega) [go_sem,h,he']
   exact hbad _ he (by simp only [a4u,chk,he']; rfl) _ (by simp (disch:=omega) [go_sem,h])
 ·simp (disch:=omega) [go_sem,a5h,h]
  have ea:=h1 (by omega)
  refine a0g (a1d hS (args) a.wide hb) (a0z _) (by simp (disch:=omega) [go_sem,h]) ?_
  by_cases he:a01 (args)= .nil
  ·simp (disch:=omega) [go_sem,h,he,Er.isNil]
   refine hK 2 _ ⟨by omega,fun _=>ea,fun _=>he,by simp (disch:=omega) [go_sem,h]⟩ (by omega)
  ·have he':=a4h he
   simp (disch:=omega) [go_sem,h,he']
   exact hbad _ he (by simp only [a4u,chk,he',ea,Er.isNil]; rfl) _ (by simp (disch:=omega) [go_sem,h])
 ·simp (disch:=omega) [go_sem,a5h,h]
  exact hex (h1 (by omega)) (h2 (by omega)) _ (by simp (disch:=omega) [go_sem,h])
theorem e4w (hS:SentO G bk) (args:List Int) (a:Ds) (ha:a.shape.length < 2 ^ 40) (hb:args.length < 2 ^ 40):ACalls pg G c1j [slI args,.agg (eD a)] (b8r bk (a4u args a)):=by
 have h7:=hS.val 6 (by decide)
 refine b7u rfl ?_
 simp (disch:=omega) [go_sem,b5r]
 refine a0b ?_
 simp (disch:=omega) [go_sem]
 refine a0m (b60 args hb) rfl (by simp only [a1l,a18,a28,Bool.and_true]) (by simp) [11] (by simp) (by simp (disch:=omega) [go_sem]) ?_
 simp (disch:=omega) [go_sem]
 refine a0d (by decide) fun s2 hs2 he2=> ?_
 simp (disch:=omega) [go_sem,hs2,a6s,a0f]
 refine d67 hS.three (args:=args) (a:=a) (by omega) (by omega) (by simp (disch:=omega) [go_sem,hs2]) (fun e he hm s h=> ?_) (fun ea eb s h=> ?_)
 ·rw [hm]
  simp (disch:=omega) [go_sem,h,dn]
 simp (disch:=omega) [go_sem,h]
 refine a0c (b6h hS.three a.shape (by omega)) rfl rfl ?_
 simp (disch:=omega) [go_sem,h]
 refine a0c (b6h hS.three args (by omega)) rfl rfl ?_
 by_cases hq:a3q a.shape=a3q args
 ·simp (disch:=omega) [go_sem,h,hq,a4u,chk,ea,eb,Er.isNil,a05]
 ·simp (disch:=omega) [go_sem,h,hq]
  refine a0b ?_
  simp (disch:=omega) [go_sem,h,h7]
  refine a0d (by decide) fun s3 hs3 he3=> ?_
  simp (disch:=omega) [go_sem,hs3,h,h7,hq,a4u,chk,ea,eb,Er.isNil,a05,bad,dn]
theorem sl1 (a:Ds):slD [a]= .sl 1 [slI a.shape,lb a.wide]:=rfl
theorem sl2 (a b:Ds):slD [a,b]= .sl 2 [slI a.shape,lb a.wide,slI b.shape,lb b.wide]:=rfl
theorem d6o (a b:Ds) (ha:a.shape.length < 2 ^ 40) (hb:b.shape.length < 2 ^ 40):ACalls pg G a7o [li 16,slD [a,b]] (.tup [.agg (eD (a1i 16 [a,b]).1),lb (a1i 16 [a,b]).2]):=by
 have hr:a1i 16 [a,b]=(a,decide (0 < a.shape.length/\a.wide=false/\b=⟨[256],true⟩)):=rfl
 rw [hr,sl2]
 refine ACalls.shown (res:= .tup [.agg [owI a.shape,lb a.wide],lb (decide (0 < a.shape.length/\a.wide=false/\b=⟨[256],true⟩))]) ?_ (by simp [go_sem,frz,a2z,owI])
 refine a2p rfl ?_
 simp (disch:=omega) [go_sem,a3d]
 refine a0c (a35 a.shape a.wide ha) rfl (by simp only [owI,a1l,a18,a28,Bool.and_true]) ?_
 by_cases c1:0 < a.shape.length
 ·cases hw:a.wide
  ·simp (disch:=omega) [go_sem,c1,hw,a6s,a0f]
   refine a0c (a7k b ⟨[256],true⟩ (by omega) (by simp)) rfl rfl ?_
   simp (disch:=omega) [go_sem,c1,hw]
  ·simp (disch:=omega) [go_sem,c1,hw]
 ·simp (disch:=omega) [go_sem,c1]
theorem d6p (a b:Ds) (ha:a.shape.length < 2 ^ 40) (hb:b.shape.length < 2 ^ 40):ACalls pg G a7o [li 17,slD [a,b]] (.tup [.agg (eD (a1i 17 [a,b]).1),lb (a1i 17 [a,b]).2]):=by
 have hr:a1i 17 [a,b]=(if a.shape.length=2/\b.shape.length=1/\b.wide=true then (⟨[b.shape[0]!,a.shape[1]!],a.wide⟩,true) else (dn,false)):=rfl
 rw [hr,sl2]
 by_cases c1:a.shape.length=2
 ·by_cases c2:b.shape.length=1
  ·cases hw:b.wide
   ·rw [if_neg (by simp)]
    have c1':(a.shape.length:Int)=2:=by omega
    have c2':(b.shape.length:Int)=1:=by omega
    refine a2p rfl ?_
    simp (disch:=omega) [go_sem,a3d,c1',c2',hw,dn]
   ·rw [if_pos ⟨c1,c2,rfl⟩]
    obtain ⟨ash,aw⟩:=a
    obtain ⟨x,y,rfl⟩:=b2b c1
    obtain ⟨bsh,bw⟩:=b
    obtain ⟨z,rfl⟩:=b6m c2
    obtain rfl:bw=true:=hw
    refine ACalls.shown (res:= .tup [.agg [owI [z,y],lb aw],lb true]) ?_ (by simp [go_sem,frz,a2z,owI])
    refine a2p rfl ?_
    simp (disch:=omega) [go_sem,a3d]
    refine a0b ?_
    simp (disch:=omega) [go_sem,a6s,a0f]
    refine a0d (by decide) fun s2 hs2 hes2=> ?_
    simp (disch:=omega) [go_sem,hs2,a6s,a0f]
  ·rw [if_neg (by simp [c2])]
   have c1':(a.shape.length:Int)=2:=by omega
   have c2':¬ (b.shape.length:Int)=1:=by omega
   refine a2p rfl ?_
   simp (disch:=omega) [go_sem,a3d,c1',c2',dn]
 ·rw [if_neg (by simp [c1])]
  have c1':¬ (a.shape.length:Int)=2:=by omega
  refine a2p rfl ?_
  simp (disch:=omega) [go_sem,a3d,c1',dn]
theorem d6q (op:Int) (h1:¬ op=16) (h2:¬ op=17) (a:Ds) (ha:a.shape.length < 2 ^ 40):ACalls pg G a7o [li op,slD [a]] (.tup [.agg (eD (a1i op [a]).1),lb (a1i op [a]).2]):=by
 have hr:a1i op [a]=(if a.shape.length=0 then (dn,false) else (⟨a.shape.dropLast,true⟩,true)):=by simp only [a1i,h1,h2,if_false]; rfl
 rw [hr,sl1]
 by_cases c:a.shape.length=0
 ·rw [if_pos c]
  have c':(a.shape.length:Int)=0:=by omega
  refine a2p rfl ?_
  simp (disch:=omega) [go_sem,a3d,h1,h2,c',dn]
 ·rw [if_neg c]
  obtain ⟨ash,aw⟩:=a
  obtain rfl | ⟨l,x,rfl⟩:ash=[]\/∃ l x,ash=l++[x]:=by
   rcases List.eq_nil_or_concat ash with h | ⟨l,x,h⟩
   ·exact .inl h
   ·exact .inr ⟨l,x,by simpa using h⟩
  ·exact absurd rfl c
  simp only [List.length_append,List.length_cons,List.length_nil] at ha c
  rw [show (⟨(⟨l++[x],aw⟩:Ds).shape.dropLast,true⟩:Ds)=⟨l,true⟩ by simp]
  refine ACalls.shown (res:= .tup [.agg [owI l,lb true],lb true]) ?_ (by simp [go_sem,frz,a2z,owI])
  refine a2p rfl ?_
  have ht:List.take l.length (List.map li l++[li x])=List.map li l:=by rw [List.take_append_of_le_length (by simp),List.take_of_length_le (by simp)]
  have hd:=b60 (G:=G) l (by omega)
  simp (disch:=omega) [go_sem,a3d,h1,h2,c,ht]
  refine a0c hd rfl (by simp only [owI,a1l,a18,a28,Bool.and_true]) ?_
  simp (disch:=omega) [go_sem]
end
end Go.Ideal.Tryz
end
section
namespace Go.Ideal
def d82 (P:Program) (G:GG) (N:Nat) (aft:DA) (t:Nat) (d:Option Nat) (f:FuncId) (args:List (Bool×X)) (rest:List AO) (fps:List (List Nat×List Nat)) (K:St->Prop) (st:St) (o1 o2:Option St):Prop:=match o1,o2 with
 | some st1,some st2=>c50 P G N aft d f (a61 N args.length st2) (t::(d.toList++a0r st (args.map (·.2)))) rest fps K st st1 st2
 | _,_=>False
def d5z (P:Program) (G:GG) (N:Nat) (aft:DA) (t:Nat) (d:Option Nat) (f:FuncId) (args:List (Bool×X)) (rest:List AO) (fps:List (List Nat×List Nat)) (K:St->Prop) (st:St) (o1:Option St):Prop:=d82 P G N aft t d f args rest fps K st o1 (pss N (N+2) args o1)
def dGc (P:Program) (G:GG) (N:Nat) (aft:DA) (v:AV) (want:Bool) (t:Nat) (d:Option Nat) (f:FuncId) (args:List (Bool×X)) (rest:List AO) (fps:List (List Nat×List Nat)) (K:St->Prop) (st:St):Prop:=match v with
 | .lit v=>if b8x want v then d5z P G N aft t d f args rest fps K st (gvs N (N+2) args (some st)) else (∀ u∈t::d.toList,u < N)/\a99 aft.2 (a4j d st)/\a93 P G N aft rest (fps++[([t],d.toList)]) K (a4j d st)
 | _=>False
section
variable {P:Program} {G:GG} {N:Nat} {aft:DA} {d:Option Nat} {i:IOp} {rest:List AO} {fps:List (List Nat×List Nat)} {K:St->Prop} {st:St} {t:Nat} {f:FuncId} {args:List (Bool×X)}
@[go_sem] theorem e92 {T:TypeId} {s u:Nat} {x:X}:evS G N none (.stf T s x (.t u)) st=evS G N none (.store T s x (.t u)) (st.set u (frz (st.s u))):=(rfl)
@[go_sem] theorem f51 {w:Bool}:dGd P G N aft (.lit undef) w t d i rest fps K st=((∀ u∈t::d.toList,u < N)/\a99 aft.2 (a4j d st)/\a93 P G N aft rest (fps++[([t],d.toList)]) K (a4j d st)):=(rfl)
@[congr] theorem d81 {o o':Option St} (h:o=o'):d5z P G N aft t d f args rest fps K st o=d5z P G N aft t d f args rest fps K st o':=by rw [h]
@[congr] theorem d83 {o1 o o':Option St} (h:o=o'):d82 P G N aft t d f args rest fps K st o1 o=d82 P G N aft t d f args rest fps K st o1 o':=by rw [h]
@[go_sem] theorem e1p {st1:St}:d5z P G N aft t d f args rest fps K st (some st1)=d82 P G N aft t d f args rest fps K st (some st1) (pss N (N+2) args (some st1)):=(rfl)
@[go_sem] theorem e1q {st1 st2:St}:d82 P G N aft t d f args rest fps K st (some st1) (some st2)=c50 P G N aft d f (a61 N args.length st2) (t::(d.toList++a0r st (args.map (·.2)))) rest fps K st st1 st2:=(rfl)
@[go_sem] theorem f3u:dGc P G N aft (.lit (.bool true)) true t d f args rest fps K st=d5z P G N aft t d f args rest fps K st (gvs N (N+2) args (some st)):=(rfl)
@[go_sem] theorem f3r:dGc P G N aft (.lit (.bool false)) false t d f args rest fps K st=d5z P G N aft t d f args rest fps K st (gvs N (N+2) args (some st)):=(rfl)
@[go_sem] theorem f3t:dGc P G N aft (.lit (.bool true)) false t d f args rest fps K st=((∀ u∈t::d.toList,u < N)/\a99 aft.2 (a4j d st)/\a93 P G N aft rest (fps++[([t],d.toList)]) K (a4j d st)):=(rfl)
@[go_sem] theorem f3s:dGc P G N aft (.lit (.bool false)) true t d f args rest fps K st=((∀ u∈t::d.toList,u < N)/\a99 aft.2 (a4j d st)/\a93 P G N aft rest (fps++[([t],d.toList)]) K (a4j d st)):=(rfl)
@[go_sem] theorem d87 {j:Nat} {want:Bool} {tys:List TypeId}:a93 P G N aft (⟨d,.call f args tys,some (j,t,want)⟩::rest) fps K st=dGc P G N aft (st.s t) want t d f args rest fps K st:=by
 simp only [a93,dGc]
 cases st.s t<;>try rfl
 rename_i v
 simp only [d1h,d5z,d82,c50]
 split
 ·cases gvs N (N+2) args (some st) with
  | none=>rfl
  | some st1=>
   simp only
   cases pss N (N+2) args (some st1)<;>rfl
 ·rfl
end
end Go.Ideal
end
section
namespace Go.Ideal.Tryz
attribute [local go_sem] eD eT eV
section
variable {G:GG} {bk:Nat->Nat×Nat} {Q:Exit->St->Prop} {st:St}
theorem c03 (hS:Sent3 G bk) {op:Int} {ins:List Ds} {r:Dr} (hn:ins.length < 2 ^ 40) (hf:∀ d∈ins,d.shape.length < 2 ^ 40)
  (h:st.s 0=li op/\st.s 1=slD ins/\st.s 4=zD/\st.s 5= .lit .nilIface/\st.s 28=slD ins/\st.s 29=li ins.length/\st.s 30=li 0)
  (hbad:∀ e:Er,e≠ .nil->a9b ins r=(dn,e)->∀ s,s.s 4= .var [.sl 0 [],lb false]/\s.s 5=a05 bk e->Q .ret s)
  (hex:a9b ins r=r->∀ s,s.s 0=li op/\s.s 1=slD ins/\s.s 4=zD/\s.s 5= .lit .nilIface->Q (.exit 1) s):AW pg G 58 (.loop a55) Q st:=by
 refine a0u Nat (fun i st=>i<=ins.length/\a9b ins r=a9b (ins.drop i) r/\st.s 0=li op/\st.s 1=slD ins/\st.s 4=zD/\st.s 5= .lit .nilIface/\st.s 28=slD ins/\st.s 29=li ins.length/\st.s 30=li i) (fun i=>ins.length - i) 0 ⟨by omega,rfl,h⟩ ?_
 clear h
 rintro i st K ⟨hi,hm,h⟩ hK
 by_cases hlt:i < ins.length
 ·rw [List.drop_eq_getElem_cons hlt,a9b] at hm
  have hl:=hf _ (List.getElem_mem hlt)
  simp (disch:=omega) [go_sem,a55,h,hlt]
  refine a0g (a1d hS ins[i].shape ins[i].wide (by omega)) (a0z _) (by simp (disch:=omega) [go_sem,h]) ?_
  by_cases he:a01 ins[i].shape= .nil
  ·simp (disch:=omega) [go_sem,h,he,Er.isNil]
   refine hK (i+1) _ ⟨by omega,by rw [hm,chk,he]; rfl,by simp (disch:=omega) [go_sem,h]⟩ (by omega)
  ·have he':=a4h he
   simp (disch:=omega) [go_sem,h,he']
   exact hbad _ he (by rw [hm,chk,he']; rfl) _ (by simp (disch:=omega) [go_sem,h])
 ·obtain rfl:i=ins.length:=by omega
  rw [List.drop_length,a9b] at hm
  simp (disch:=omega) [go_sem,a55,h]
  exact hex hm _ (by simp (disch:=omega) [go_sem,h])
theorem c6n (hS:SentO G bk) (op:Int) (ins:List Ds) (hf:∀ d∈ins,d.shape.length < 2 ^ 40) (ho:(op=16\/op=17)/\ins.length=2\/(op=19\/op=20)/\ins.length=1):ACalls pg G b92 [li op,slD ins] (b8r bk (a42 op ins)):=by
 have h7:=hS.val 6 (by decide)
 have hl:ACalls pg G a7o [li op,slD ins] (.tup [.agg (eD (a1i op ins).1),lb (a1i op ins).2]):=by
  rcases ho with ⟨h,h2⟩ | ⟨h,h2⟩
  ·obtain ⟨a,b,rfl⟩:=b2b h2
   rcases h with rfl | rfl
   ·exact d6o a b (hf a (by simp)) (hf b (by simp))
   ·exact d6p a b (hf a (by simp)) (hf b (by simp))
  ·obtain ⟨a,rfl⟩:=b6m h2
   exact d6q op (by omega) (by omega) a (hf a (by simp))
 have hn:ins.length < 2 ^ 40:=by omega
 have hlen:(a1i op ins).1.shape.length < 2 ^ 40:=by
  rcases ho with ⟨h,h2⟩ | ⟨h,h2⟩
  ·obtain ⟨a,b,rfl⟩:=b2b h2
   have:=hf a (by simp)
   rcases h with rfl | rfl
   ·exact this
   ·rw [show a1i 17 [a,b]=(if a.shape.length=2/\b.shape.length=1/\b.wide=true then (⟨[b.shape[0]!,a.shape[1]!],a.wide⟩,true) else (dn,false)) from rfl]
    split<;>simp [dn]
  ·obtain ⟨a,rfl⟩:=b6m h2
   have:=hf a (by simp)
   have hr:a1i op [a]=(if a.shape.length=0 then (dn,false) else (⟨a.shape.dropLast,true⟩,true)):=by simp only [a1i,show ¬ op=16 by omega,show ¬ op=17 by omega,if_false]; rfl
   rw [hr]
   split<;>simp [dn]; omega
 unfold a42
 generalize a1i op ins=d at *
 obtain ⟨d,ok⟩:=d
 refine b6e rfl ?_
 obtain ⟨rfl,h2⟩ | ⟨rfl,h2⟩ | ⟨rfl,h2⟩ | ⟨rfl,h2⟩:(op=16/\ins.length=2)\/(op=17/\ins.length=2)\/(op=19/\ins.length=1)\/(op=20/\ins.length=1):=by omega
 ·
  simp (disch:=omega) [go_sem,a5n,h2]
  refine c03 hS.three (op:=16) (ins:=ins) (r:=if ok=true then a6f d.shape d.wide else bad 6) hn hf (by simp (disch:=omega) [go_sem,h2]) (fun e he hm s h=> ?_) (fun hm s h=> ?_)
  ·rw [hm]
   simp (disch:=omega) [go_sem,h,dn]
  ·rw [hm]
   simp (disch:=omega) [go_sem,h]
   refine a0g hl (by simp [go_sem,a0p]) (by simp (disch:=omega) [go_sem,h]) ?_
   cases ok
   ·simp (disch:=omega) [go_sem,h]
    refine a0b ?_
    simp (disch:=omega) [go_sem,h,h7]
    refine a0d (by decide) fun s2 hs2 he2=> ?_
    simp (disch:=omega) [go_sem,hs2,h,h7,bad,dn,a05]
   ·simp (disch:=omega) [go_sem,h]
    refine a0g (a1d hS.three d.shape d.wide (by simp at hlen; omega)) (a0z _) (by simp (disch:=omega) [go_sem,h]) ?_
    by_cases he:a01 d.shape= .nil
    ·simp (disch:=omega) [go_sem,h,he,Er.isNil,a6f,chk,a05]
    ·have he':=a4h he
     simp (disch:=omega) [go_sem,h,he',a6f,chk,dn]
 ·
  simp (disch:=omega) [go_sem,a5n,h2]
  refine c03 hS.three (op:=17) (ins:=ins) (r:=if ok=true then a6f d.shape d.wide else bad 6) hn hf (by simp (disch:=omega) [go_sem,h2]) (fun e he hm s h=> ?_) (fun hm s h=> ?_)
  ·rw [hm]
   simp (disch:=omega) [go_sem,h,dn]
  ·rw [hm]
   simp (disch:=omega) [go_sem,h]
   refine a0g hl (by simp [go_sem,a0p]) (by simp (disch:=omega) [go_sem,h]) ?_
   cases ok
   ·simp (disch:=omega) [go_sem,h]
    refine a0b ?_
    simp (disch:=omega) [go_sem,h,h7]
    refine a0d (by decide) fun s2 hs2 he2=> ?_
    simp (disch:=omega) [go_sem,hs2,h,h7,bad,dn,a05]
   ·simp (disch:=omega) [go_sem,h]
    refine a0g (a1d hS.three d.shape d.wide (by simp at hlen; omega)) (a0z _) (by simp (disch:=omega) [go_sem,h]) ?_
    by_cases he:a01 d.shape= .nil
    ·simp (disch:=omega) [go_sem,h,he,Er.isNil,a6f,chk,a05]
    ·have he':=a4h he
     simp (disch:=omega) [go_sem,h,he',a6f,chk,dn]
 ·
  simp (disch:=omega) [go_sem,a5n,h2]
  refine c03 hS.three (op:=19) (ins:=ins) (r:=if ok=true then a6f d.shape d.wide else bad 6) hn hf (by simp (disch:=omega) [go_sem,h2]) (fun e he hm s h=> ?_) (fun hm s h=> ?_)
  ·rw [hm]
   simp (disch:=omega) [go_sem,h,dn]
  ·rw [hm]
   simp (disch:=omega) [go_sem,h]
   refine a0g hl (by simp [go_sem,a0p]) (by simp (disch:=omega) [go_sem,h]) ?_
   cases ok
   ·simp (disch:=omega) [go_sem,h]
    refine a0b ?_
    simp (disch:=omega) [go_sem,h,h7]
    refine a0d (by decide) fun s2 hs2 he2=> ?_
    simp (disch:=omega) [go_sem,hs2,h,h7,bad,dn,a05]
   ·simp (disch:=omega) [go_sem,h]
    refine a0g (a1d hS.three d.shape d.wide (by simp at hlen; omega)) (a0z _) (by simp (disch:=omega) [go_sem,h]) ?_
    by_cases he:a01 d.shape= .nil
    ·simp (disch:=omega) [go_sem,h,he,Er.isNil,a6f,chk,a05]
    ·have he':=a4h he
     simp (disch:=omega) [go_sem,h,he',a6f,chk,dn]
 ·
  simp (disch:=omega) [go_sem,a5n,h2]
  refine c03 hS.three (op:=20) (ins:=ins) (r:=if ok=true then a6f d.shape d.wide else bad 6) hn hf (by simp (disch:=omega) [go_sem,h2]) (fun e he hm s h=> ?_) (fun hm s h=> ?_)
  ·rw [hm]
   simp (disch:=omega) [go_sem,h,dn]
  ·rw [hm]
   simp (disch:=omega) [go_sem,h]
   refine a0g hl (by simp [go_sem,a0p]) (by simp (disch:=omega) [go_sem,h]) ?_
   cases ok
   ·simp (disch:=omega) [go_sem,h]
    refine a0b ?_
    simp (disch:=omega) [go_sem,h,h7]
    refine a0d (by decide) fun s2 hs2 he2=> ?_
    simp (disch:=omega) [go_sem,hs2,h,h7,bad,dn,a05]
   ·simp (disch:=omega) [go_sem,h]
    refine a0g (a1d hS.three d.shape d.wide (by simp at hlen; omega)) (a0z _) (by simp (disch:=omega) [go_sem,h]) ?_
    by_cases he:a01 d.shape= .nil
    ·simp (disch:=omega) [go_sem,h,he,Er.isNil,a6f,chk,a05]
    ·have he':=a4h he
     simp (disch:=omega) [go_sem,h,he',a6f,chk,dn]
theorem b0o (hS:Sent3 G bk) {op:Int} {args:List Int} {ins:List Ds} {r:Dr} (hn:ins.length < 2 ^ 40) (hf:∀ d∈ins,d.shape.length < 2 ^ 40)
  (h:st.s 0=li op/\st.s 1=slI args/\st.s 2=slD ins/\st.s 8=li ins.length/\st.s 6=zD/\st.s 7= .lit .nilIface/\st.s 40=slD ins/\st.s 41=li ins.length/\st.s 42=li 0)
  (hbad:∀ e:Er,e≠ .nil->a9b ins r=(dn,e)->∀ s,s.s 6= .var [.sl 0 [],lb false]/\s.s 7=a05 bk e->Q .ret s)
  (hex:a9b ins r=r->∀ s,s.s 0=li op/\s.s 1=slI args/\s.s 2=slD ins/\s.s 8=li ins.length/\s.s 6=zD/\s.s 7= .lit .nilIface->Q (.exit 0) s):AW pg G 146 (.loop a53) Q st:=by
 refine a0u Nat (fun i st=>i<=ins.length/\a9b ins r=a9b (ins.drop i) r/\st.s 0=li op/\st.s 1=slI args/\st.s 2=slD ins/\st.s 8=li ins.length/\st.s 6=zD/\st.s 7= .lit .nilIface/\st.s 40=slD ins/\st.s 41=li ins.length/\st.s 42=li i) (fun i=>ins.length - i) 0 ⟨by omega,rfl,h⟩ ?_
 clear h
 rintro i st K ⟨hi,hm,h⟩ hK
 by_cases hlt:i < ins.length
 ·rw [List.drop_eq_getElem_cons hlt,a9b] at hm
  have hl:=hf _ (List.getElem_mem hlt)
  simp (disch:=omega) [go_sem,a53,h,hlt]
  refine a0g (a1d hS ins[i].shape ins[i].wide (by omega)) (a0z _) (by simp (disch:=omega) [go_sem,h]) ?_
  by_cases he:a01 ins[i].shape= .nil
  ·simp (disch:=omega) [go_sem,h,he,Er.isNil]
   refine hK (i+1) _ ⟨by omega,by rw [hm,chk,he]; rfl,by simp (disch:=omega) [go_sem,h]⟩ (by omega)
  ·have he':=a4h he
   simp (disch:=omega) [go_sem,h,he']
   exact hbad _ he (by rw [hm,chk,he']; rfl) _ (by simp (disch:=omega) [go_sem,h])
 ·obtain rfl:i=ins.length:=by omega
  rw [List.drop_length,a9b] at hm
  simp (disch:=omega) [go_sem,a53,h]
  exact hex hm _ (by simp (disch:=omega) [go_sem,h])
theorem d12 (hS:SentO G bk) (args:List Int) (ins:List Ds) (hf:∀ d∈ins,d.shape.length < 2 ^ 40)  (h1:ins.length=a1r 4) (h2:args.length=a08 4):ACalls pg G a2d [li (4:Int),slI args,slD ins] (b8r bk (a1u 4 args ins)):=by
 have h7:=hS.val 6 (by decide)
 have h3:=hS.val 3 (by decide)
 have hn:ins.length < 2 ^ 40:=by
  rw [h1]; unfold a1r; split<;>(try split)<;>simp
 have e1:((a1r 4:Nat):Int)=(ins.length:Int):=by rw [h1]
 have e2:((a08 4:Nat):Int)=(args.length:Int):=by rw [h2]
 unfold a1u
 generalize hr:(if (ins.length=2/\ins[0]! ≠ins[1]!)\/((4:Int)=10/\ins[0]!.wide=false)\/((4:Int)=11/\ins[0]!.wide=true) then bad 6 else if a1h 4 args ins[0]!.wide=true then ((⟨ins[0]!.shape,a1m 4 ins[0]!.wide⟩,.nil):Dr) else bad 3)=r
 have hc:=a58 (G:=G) 4 (by omega)
 rw [e1,e2] at hc
 refine a1x rfl ?_
 simp (disch:=omega) [go_sem,a2h]
 refine a0c hc rfl rfl ?_
 simp (disch:=omega) [go_sem]
 refine b0o hS.three (op:=4) (args:=args) (ins:=ins) (r:=r) hn hf (by simp (disch:=omega) [go_sem]) (fun e he hm s h=> ?_) (fun hm s h=> ?_)
 ·rw [hm]
  simp (disch:=omega) [go_sem,h,dn]
 rw [hm]
 clear hm hc e1 e2
 obtain ⟨a,b,rfl⟩:=b2b (h1.trans (by decide))
 have la:=hf a (by simp)
 have lb':=hf b (by simp)
 rw [sl2] at h
 by_cases hab:a=b
 ·subst hab
  have hr':r=(a,.nil):=by rw [<-hr]; simp [a1h,a1m]
  rw [hr']
  simp (disch:=omega) [go_sem,h]
  refine a0b ?_
  simp (disch:=omega) [go_sem,h]
  refine a0m (a7k a a (by omega) (by omega)) rfl rfl (by simp (disch:=omega) [go_sem,a0r,a3e]) [63] (by simp) (by simp (disch:=omega) [go_sem,h]) ?_
  simp (disch:=omega) [go_sem,h,a0r,a3e]
  refine a0d (by decide) fun s2 hs2 hes2=> ?_
  simp (disch:=omega) [go_sem,hs2,h]
  refine a0b ?_
  simp (disch:=omega) [go_sem,hs2,h]
  refine a0d (by decide) fun s3 hs3 hes3=> ?_
  simp (disch:=omega) [go_sem,hs3,hs2,h]
  refine a0c (a35 a.shape a.wide la) rfl (by simp only [owI,a1l,a18,a28,Bool.and_true]) ?_
  simp (disch:=omega) [go_sem,hs3,hs2,h,a05]
 ·have hr':r=bad 6:=by rw [<-hr]; simp [hab]
  rw [hr']
  simp (disch:=omega) [go_sem,h]
  refine a0b ?_
  simp (disch:=omega) [go_sem,h]
  refine a0m (a7k a b (by omega) (by omega)) rfl rfl (by simp (disch:=omega) [go_sem,a0r,a3e]) [63] (by simp) (by simp (disch:=omega) [go_sem,h,hab]) ?_
  simp (disch:=omega) [go_sem,h,hab,a0r,a3e]
  refine a0d (by decide) fun s2 hs2 hes2=> ?_
  simp (disch:=omega) [go_sem,hs2,h,hab]
  refine a0b ?_
  simp (disch:=omega) [go_sem,hs2,h,h7,bad,dn,a05,Er.isNil]
  refine a0d (by decide) fun s4 hs4 hes4=> ?_
  simp (disch:=omega) [go_sem,hs4,hs2,h,h7,bad,dn,a05,Er.isNil]
theorem d13 (hS:SentO G bk) (args:List Int) (ins:List Ds) (hf:∀ d∈ins,d.shape.length < 2 ^ 40)  (h1:ins.length=a1r 5) (h2:args.length=a08 5):ACalls pg G a2d [li (5:Int),slI args,slD ins] (b8r bk (a1u 5 args ins)):=by
 have h7:=hS.val 6 (by decide)
 have h3:=hS.val 3 (by decide)
 have hn:ins.length < 2 ^ 40:=by
  rw [h1]; unfold a1r; split<;>(try split)<;>simp
 have e1:((a1r 5:Nat):Int)=(ins.length:Int):=by rw [h1]
 have e2:((a08 5:Nat):Int)=(args.length:Int):=by rw [h2]
 unfold a1u
 generalize hr:(if (ins.length=2/\ins[0]! ≠ins[1]!)\/((5:Int)=10/\ins[0]!.wide=false)\/((5:Int)=11/\ins[0]!.wide=true) then bad 6 else if a1h 5 args ins[0]!.wide=true then ((⟨ins[0]!.shape,a1m 5 ins[0]!.wide⟩,.nil):Dr) else bad 3)=r
 have hc:=a58 (G:=G) 5 (by omega)
 rw [e1,e2] at hc
 refine a1x rfl ?_
 simp (disch:=omega) [go_sem,a2h]
 refine a0c hc rfl rfl ?_
 simp (disch:=omega) [go_sem]
 refine b0o hS.three (op:=5) (args:=args) (ins:=ins) (r:=r) hn hf (by simp (disch:=omega) [go_sem]) (fun e he hm s h=> ?_) (fun hm s h=> ?_)
 ·rw [hm]
  simp (disch:=omega) [go_sem,h,dn]
 rw [hm]
 clear hm hc e1 e2
 obtain ⟨a,b,rfl⟩:=b2b (h1.trans (by decide))
 have la:=hf a (by simp)
 have lb':=hf b (by simp)
 rw [sl2] at h
 by_cases hab:a=b
 ·subst hab
  have hr':r=(a,.nil):=by rw [<-hr]; simp [a1h,a1m]
  rw [hr']
  simp (disch:=omega) [go_sem,h]
  refine a0b ?_
  simp (disch:=omega) [go_sem,h]
  refine a0m (a7k a a (by omega) (by omega)) rfl rfl (by simp (disch:=omega) [go_sem,a0r,a3e]) [63] (by simp) (by simp (disch:=omega) [go_sem,h]) ?_
  simp (disch:=omega) [go_sem,h,a0r,a3e]
  refine a0d (by decide) fun s2 hs2 hes2=> ?_
  simp (disch:=omega) [go_sem,hs2,h]
  refine a0b ?_
  simp (disch:=omega) [go_sem,hs2,h]
  refine a0d (by decide) fun s3 hs3 hes3=> ?_
  simp (disch:=omega) [go_sem,hs3,hs2,h]
  refine a0c (a35 a.shape a.wide la) rfl (by simp only [owI,a1l,a18,a28,Bool.and_true]) ?_
  simp (disch:=omega) [go_sem,hs3,hs2,h,a05]
 ·have hr':r=bad 6:=by rw [<-hr]; simp [hab]
  rw [hr']
  simp (disch:=omega) [go_sem,h]
  refine a0b ?_
  simp (disch:=omega) [go_sem,h]
  refine a0m (a7k a b (by omega) (by omega)) rfl rfl (by simp (disch:=omega) [go_sem,a0r,a3e]) [63] (by simp) (by simp (disch:=omega) [go_sem,h,hab]) ?_
  simp (disch:=omega) [go_sem,h,hab,a0r,a3e]
  refine a0d (by decide) fun s2 hs2 hes2=> ?_
  simp (disch:=omega) [go_sem,hs2,h,hab]
  refine a0b ?_
  simp (disch:=omega) [go_sem,hs2,h,h7,bad,dn,a05,Er.isNil]
  refine a0d (by decide) fun s4 hs4 hes4=> ?_
  simp (disch:=omega) [go_sem,hs4,hs2,h,h7,bad,dn,a05,Er.isNil]
theorem d14 (hS:SentO G bk) (args:List Int) (ins:List Ds) (hf:∀ d∈ins,d.shape.length < 2 ^ 40)  (h1:ins.length=a1r 6) (h2:args.length=a08 6):ACalls pg G a2d [li (6:Int),slI args,slD ins] (b8r bk (a1u 6 args ins)):=by
 have h7:=hS.val 6 (by decide)
 have h3:=hS.val 3 (by decide)
 have hn:ins.length < 2 ^ 40:=by
  rw [h1]; unfold a1r; split<;>(try split)<;>simp
 have e1:((a1r 6:Nat):Int)=(ins.length:Int):=by rw [h1]
 have e2:((a08 6:Nat):Int)=(args.length:Int):=by rw [h2]
 unfold a1u
 generalize hr:(if (ins.length=2/\ins[0]! ≠ins[1]!)\/((6:Int)=10/\ins[0]!.wide=false)\/((6:Int)=11/\ins[0]!.wide=true) then bad 6 else if a1h 6 args ins[0]!.wide=true then ((⟨ins[0]!.shape,a1m 6 ins[0]!.wide⟩,.nil):Dr) else bad 3)=r
 have hc:=a58 (G:=G) 6 (by omega)
 rw [e1,e2] at hc
 refine a1x rfl ?_
 simp (disch:=omega) [go_sem,a2h]
 refine a0c hc rfl rfl ?_
 simp (disch:=omega) [go_sem]
 refine b0o hS.three (op:=6) (args:=args) (ins:=ins) (r:=r) hn hf (by simp (disch:=omega) [go_sem]) (fun e he hm s h=> ?_) (fun hm s h=> ?_)
 ·rw [hm]
  simp (disch:=omega) [go_sem,h,dn]
 rw [hm]
 clear hm hc e1 e2
 obtain ⟨a,b,rfl⟩:=b2b (h1.trans (by decide))
 have la:=hf a (by simp)
 have lb':=hf b (by simp)
 rw [sl2] at h
 by_cases hab:a=b
 ·subst hab
  have hr':r=(a,.nil):=by rw [<-hr]; simp [a1h,a1m]
  rw [hr']
  simp (disch:=omega) [go_sem,h]
  refine a0b ?_
  simp (disch:=omega) [go_sem,h]
  refine a0m (a7k a a (by omega) (by omega)) rfl rfl (by simp (disch:=omega) [go_sem,a0r,a3e]) [63] (by simp) (by simp (disch:=omega) [go_sem,h]) ?_
  simp (disch:=omega) [go_sem,h,a0r,a3e]
  refine a0d (by decide) fun s2 hs2 hes2=> ?_
  simp (disch:=omega) [go_sem,hs2,h]
  refine a0b ?_
  simp (disch:=omega) [go_sem,hs2,h]
  refine a0d (by decide) fun s3 hs3 hes3=> ?_
  simp (disch:=omega) [go_sem,hs3,hs2,h]
  refine a0c (a35 a.shape a.wide la) rfl (by simp only [owI,a1l,a18,a28,Bool.and_true]) ?_
  simp (disch:=omega) [go_sem,hs3,hs2,h,a05]
 ·have hr':r=bad 6:=by rw [<-hr]; simp [hab]
  rw [hr']
  simp (disch:=omega) [go_sem,h]
  refine a0b ?_
  simp (disch:=omega) [go_sem,h]
  refine a0m (a7k a b (by omega) (by omega)) rfl rfl (by simp (disch:=omega) [go_sem,a0r,a3e]) [63] (by simp) (by simp (disch:=omega) [go_sem,h,hab]) ?_
  simp (disch:=omega) [go_sem,h,hab,a0r,a3e]
  refine a0d (by decide) fun s2 hs2 hes2=> ?_
  simp (disch:=omega) [go_sem,hs2,h,hab]
  refine a0b ?_
  simp (disch:=omega) [go_sem,hs2,h,h7,bad,dn,a05,Er.isNil]
  refine a0d (by decide) fun s4 hs4 hes4=> ?_
  simp (disch:=omega) [go_sem,hs4,hs2,h,h7,bad,dn,a05,Er.isNil]
theorem d15 (hS:SentO G bk) (args:List Int) (ins:List Ds) (hf:∀ d∈ins,d.shape.length < 2 ^ 40)  (h1:ins.length=a1r 7) (h2:args.length=a08 7):ACalls pg G a2d [li (7:Int),slI args,slD ins] (b8r bk (a1u 7 args ins)):=by
 have h7:=hS.val 6 (by decide)
 have h3:=hS.val 3 (by decide)
 have hn:ins.length < 2 ^ 40:=by
  rw [h1]; unfold a1r; split<;>(try split)<;>simp
 have e1:((a1r 7:Nat):Int)=(ins.length:Int):=by rw [h1]
 have e2:((a08 7:Nat):Int)=(args.length:Int):=by rw [h2]
 unfold a1u
 generalize hr:(if (ins.length=2/\ins[0]! ≠ins[1]!)\/((7:Int)=10/\ins[0]!.wide=false)\/((7:Int)=11/\ins[0]!.wide=true) then bad 6 else if a1h 7 args ins[0]!.wide=true then ((⟨ins[0]!.shape,a1m 7 ins[0]!.wide⟩,.nil):Dr) else bad 3)=r
 have hc:=a58 (G:=G) 7 (by omega)
 rw [e1,e2] at hc
 refine a1x rfl ?_
 simp (disch:=omega) [go_sem,a2h]
 refine a0c hc rfl rfl ?_
 simp (disch:=omega) [go_sem]
 refine b0o hS.three (op:=7) (args:=args) (ins:=ins) (r:=r) hn hf (by simp (disch:=omega) [go_sem]) (fun e he hm s h=> ?_) (fun hm s h=> ?_)
 ·rw [hm]
  simp (disch:=omega) [go_sem,h,dn]
 rw [hm]
 clear hm hc e1 e2
 obtain ⟨a,b,rfl⟩:=b2b (h1.trans (by decide))
 have la:=hf a (by simp)
 have lb':=hf b (by simp)
 rw [sl2] at h
 by_cases hab:a=b
 ·subst hab
  have hr':r=(a,.nil):=by rw [<-hr]; simp [a1h,a1m]
  rw [hr']
  simp (disch:=omega) [go_sem,h]
  refine a0b ?_
  simp (disch:=omega) [go_sem,h]
  refine a0m (a7k a a (by omega) (by omega)) rfl rfl (by simp (disch:=omega) [go_sem,a0r,a3e]) [63] (by simp) (by simp (disch:=omega) [go_sem,h]) ?_
  simp (disch:=omega) [go_sem,h,a0r,a3e]
  refine a0d (by decide) fun s2 hs2 hes2=> ?_
  simp (disch:=omega) [go_sem,hs2,h]
  refine a0b ?_
  simp (disch:=omega) [go_sem,hs2,h]
  refine a0d (by decide) fun s3 hs3 hes3=> ?_
  simp (disch:=omega) [go_sem,hs3,hs2,h]
  refine a0c (a35 a.shape a.wide la) rfl (by simp only [owI,a1l,a18,a28,Bool.and_true]) ?_
  simp (disch:=omega) [go_sem,hs3,hs2,h,a05]
 ·have hr':r=bad 6:=by rw [<-hr]; simp [hab]
  rw [hr']
  simp (disch:=omega) [go_sem,h]
  refine a0b ?_
  simp (disch:=omega) [go_sem,h]
  refine a0m (a7k a b (by omega) (by omega)) rfl rfl (by simp (disch:=omega) [go_sem,a0r,a3e]) [63] (by simp) (by simp (disch:=omega) [go_sem,h,hab]) ?_
  simp (disch:=omega) [go_sem,h,hab,a0r,a3e]
  refine a0d (by decide) fun s2 hs2 hes2=> ?_
  simp (disch:=omega) [go_sem,hs2,h,hab]
  refine a0b ?_
  simp (disch:=omega) [go_sem,hs2,h,h7,bad,dn,a05,Er.isNil]
  refine a0d (by decide) fun s4 hs4 hes4=> ?_
  simp (disch:=omega) [go_sem,hs4,hs2,h,h7,bad,dn,a05,Er.isNil]
theorem d16 (hS:SentO G bk) (args:List Int) (ins:List Ds) (hf:∀ d∈ins,d.shape.length < 2 ^ 40)  (h1:ins.length=a1r 8) (h2:args.length=a08 8):ACalls pg G a2d [li (8:Int),slI args,slD ins] (b8r bk (a1u 8 args ins)):=by
 have h7:=hS.val 6 (by decide)
 have h3:=hS.val 3 (by decide)
 have hn:ins.length < 2 ^ 40:=by
  rw [h1]; unfold a1r; split<;>(try split)<;>simp
 have e1:((a1r 8:Nat):Int)=(ins.length:Int):=by rw [h1]
 have e2:((a08 8:Nat):Int)=(args.length:Int):=by rw [h2]
 unfold a1u
 generalize hr:(if (ins.length=2/\ins[0]! ≠ins[1]!)\/((8:Int)=10/\ins[0]!.wide=false)\/((8:Int)=11/\ins[0]!.wide=true) then bad 6 else if a1h 8 args ins[0]!.wide=true then ((⟨ins[0]!.shape,a1m 8 ins[0]!.wide⟩,.nil):Dr) else bad 3)=r
 have hc:=a58 (G:=G) 8 (by omega)
 rw [e1,e2] at hc
 refine a1x rfl ?_
 simp (disch:=omega) [go_sem,a2h]
 refine a0c hc rfl rfl ?_
 simp (disch:=omega) [go_sem]
 refine b0o hS.three (op:=8) (args:=args) (ins:=ins) (r:=r) hn hf (by simp (disch:=omega) [go_sem]) (fun e he hm s h=> ?_) (fun hm s h=> ?_)
 ·rw [hm]
  simp (disch:=omega) [go_sem,h,dn]
 rw [hm]
 clear hm hc e1 e2
 obtain ⟨a,rfl⟩:=b6m (h1.trans (by decide))
 have la:=hf a (by simp)
 rw [sl1] at h
 have hr':r=(a,.nil):=by rw [<-hr]; simp [a1h,a1m]
 rw [hr']
 simp (disch:=omega) [go_sem,h]
 refine a0b ?_
 simp (disch:=omega) [go_sem,h]
 refine a0d (by decide) fun s2 hs2 hes2=> ?_
 simp (disch:=omega) [go_sem,hs2,h]
 refine a0b ?_
 simp (disch:=omega) [go_sem,hs2,h]
 refine a0d (by decide) fun s3 hs3 hes3=> ?_
 simp (disch:=omega) [go_sem,hs3,hs2,h]
 refine a0c (a35 a.shape a.wide la) rfl (by simp only [owI,a1l,a18,a28,Bool.and_true]) ?_
 simp (disch:=omega) [go_sem,hs3,hs2,h,a05]
theorem d17 (hS:SentO G bk) (args:List Int) (ins:List Ds) (hf:∀ d∈ins,d.shape.length < 2 ^ 40)  (h1:ins.length=a1r 9) (h2:args.length=a08 9):ACalls pg G a2d [li (9:Int),slI args,slD ins] (b8r bk (a1u 9 args ins)):=by
 have h7:=hS.val 6 (by decide)
 have h3:=hS.val 3 (by decide)
 have hn:ins.length < 2 ^ 40:=by
  rw [h1]; unfold a1r; split<;>(try split)<;>simp
 have e1:((a1r 9:Nat):Int)=(ins.length:Int):=by rw [h1]
 have e2:((a08 9:Nat):Int)=(args.length:Int):=by rw [h2]
 unfold a1u
 generalize hr:(if (ins.length=2/\ins[0]! ≠ins[1]!)\/((9:Int)=10/\ins[0]!.wide=false)\/((9:Int)=11/\ins[0]!.wide=true) then bad 6 else if a1h 9 args ins[0]!.wide=true then ((⟨ins[0]!.shape,a1m 9 ins[0]!.wide⟩,.nil):Dr) else bad 3)=r
 have hc:=a58 (G:=G) 9 (by omega)
 rw [e1,e2] at hc
 refine a1x rfl ?_
 simp (disch:=omega) [go_sem,a2h]
 refine a0c hc rfl rfl ?_
 simp (disch:=omega) [go_sem]
 refine b0o hS.three (op:=9) (args:=args) (ins:=ins) (r:=r) hn hf (by simp (disch:=omega) [go_sem]) (fun e he hm s h=> ?_) (fun hm s h=> ?_)
 ·rw [hm]
  simp (disch:=omega) [go_sem,h,dn]
 rw [hm]
 clear hm hc e1 e2
 obtain ⟨a,rfl⟩:=b6m (h1.trans (by decide))
 have la:=hf a (by simp)
 rw [sl1] at h
 obtain ⟨x,y,rfl⟩:=b2b (h2.trans (by decide))
 have hr':r=if (decide (x<=y)&&(b8j x a.wide&&b8j y a.wide))=true then (a,.nil) else bad 3:=by rw [<-hr]; simp [a1h,a1m]
 generalize hb:(decide (x<=y)&&(b8j x a.wide&&b8j y a.wide))=b at hr'
 rw [hr']
 clear hr hr'
 simp (disch:=omega) [go_sem,h]
 refine a0b ?_
 simp (disch:=omega) [go_sem,h]
 refine a0d (by decide) fun s2 hs2 hes2=> ?_
 simp (disch:=omega) [go_sem,hs2,h]
 refine a0b ?_
 simp (disch:=omega) [go_sem,hs2,h]
 refine a0d (by decide) fun s3 hs3 hes3=> ?_
 simp (disch:=omega) [go_sem,hs3,hs2,h]
 by_cases c:x<=y
 ·
  refine a0b ?_
  simp (disch:=omega) [go_sem,hs3,hs2,h,c]
  refine a0m (d3f x a.wide) rfl rfl (by simp (disch:=omega) [go_sem,a0r,a3e]) [103] (by simp) (by simp (disch:=omega) [go_sem,hs3,hs2,h,c]) ?_
  simp (disch:=omega) [go_sem,hs3,hs2,h,c,a0r,a3e]
  cases f1:b8j x a.wide
  ·have hb':b=false:=by rw [<-hb]; simp [f1]
   rw [hb',if_neg (by simp)]
   simp (disch:=omega) [go_sem,hs3,hs2,h,c,f1]
   refine a0d (by decide) fun s4 hs4 hes4=> ?_
   simp (disch:=omega) [go_sem,hs4,hs3,hs2,h,c,f1]
   refine a0b ?_
   simp (disch:=omega) [go_sem,hs4,hs3,hs2,h,h3,bad,dn,a05]
   refine a0d (by decide) fun s9 hs9 hes9=> ?_
   simp (disch:=omega) [go_sem,hs9,hs4,hs3,hs2,h,h3,bad,dn,a05]
  simp (disch:=omega) [go_sem,hs3,hs2,h,c,f1,a0r,a3e]
  refine a0m (d3f y a.wide) rfl rfl (by simp (disch:=omega) [go_sem,a0r,a3e]) [111] (by simp) (by simp (disch:=omega) [go_sem,hs3,hs2,h,c,f1]) ?_
  simp (disch:=omega) [go_sem,hs3,hs2,h,c,f1,a0r,a3e]
  cases f2:b8j y a.wide
  ·have hb':b=false:=by rw [<-hb]; simp [f2]
   rw [hb',if_neg (by simp)]
   refine a0d (by decide) fun s4 hs4 hes4=> ?_
   simp (disch:=omega) [go_sem,hs4,hs3,hs2,h,c,f1,f2]
   refine a0b ?_
   simp (disch:=omega) [go_sem,hs4,hs3,hs2,h,h3,bad,dn,a05]
   refine a0d (by decide) fun s9 hs9 hes9=> ?_
   simp (disch:=omega) [go_sem,hs9,hs4,hs3,hs2,h,h3,bad,dn,a05]
  have hb':b=true:=by rw [<-hb]; simp [c,f1,f2]
  rw [hb',if_pos rfl]
  refine a0d (by decide) fun s4 hs4 hes4=> ?_
  simp (disch:=omega) [go_sem,hs4,hs3,hs2,h,c,f1,f2]
  refine a0c (a35 a.shape a.wide la) rfl (by simp only [owI,a1l,a18,a28,Bool.and_true]) ?_
  simp (disch:=omega) [go_sem,hs4,hs3,hs2,h,a05]
 ·have hb':b=false:=by rw [<-hb]; simp [c]
  rw [hb',if_neg (by simp)]
  refine a0b ?_
  simp (disch:=omega) [go_sem,hs3,hs2,h,c]
  refine a0d (by decide) fun s4 hs4 hes4=> ?_
  simp (disch:=omega) [go_sem,hs4,hs3,hs2,h,c]
  refine a0b ?_
  simp (disch:=omega) [go_sem,hs4,hs3,hs2,h,h3,bad,dn,a05]
  refine a0d (by decide) fun s9 hs9 hes9=> ?_
  simp (disch:=omega) [go_sem,hs9,hs4,hs3,hs2,h,h3,bad,dn,a05]
theorem c80 (hS:SentO G bk) (args:List Int) (ins:List Ds) (hf:∀ d∈ins,d.shape.length < 2 ^ 40)  (h1:ins.length=a1r 10) (h2:args.length=a08 10):ACalls pg G a2d [li (10:Int),slI args,slD ins] (b8r bk (a1u 10 args ins)):=by
 have h7:=hS.val 6 (by decide)
 have h3:=hS.val 3 (by decide)
 have hn:ins.length < 2 ^ 40:=by
  rw [h1]; unfold a1r; split<;>(try split)<;>simp
 have e1:((a1r 10:Nat):Int)=(ins.length:Int):=by rw [h1]
 have e2:((a08 10:Nat):Int)=(args.length:Int):=by rw [h2]
 unfold a1u
 generalize hr:(if (ins.length=2/\ins[0]! ≠ins[1]!)\/((10:Int)=10/\ins[0]!.wide=false)\/((10:Int)=11/\ins[0]!.wide=true) then bad 6 else if a1h 10 args ins[0]!.wide=true then ((⟨ins[0]!.shape,a1m 10 ins[0]!.wide⟩,.nil):Dr) else bad 3)=r
 have hc:=a58 (G:=G) 10 (by omega)
 rw [e1,e2] at hc
 refine a1x rfl ?_
 simp (disch:=omega) [go_sem,a2h]
 refine a0c hc rfl rfl ?_
 simp (disch:=omega) [go_sem]
 refine b0o hS.three (op:=10) (args:=args) (ins:=ins) (r:=r) hn hf (by simp (disch:=omega) [go_sem]) (fun e he hm s h=> ?_) (fun hm s h=> ?_)
 ·rw [hm]
  simp (disch:=omega) [go_sem,h,dn]
 rw [hm]
 clear hm hc e1 e2
 obtain ⟨a,rfl⟩:=b6m (h1.trans (by decide))
 have la:=hf a (by simp)
 rw [sl1] at h
 obtain ⟨x,y,z,rfl⟩:=d4x (h2.trans (by decide))
 obtain ⟨ash,aw⟩:=a
 cases aw
 ·have hr':r=bad 6:=by rw [<-hr]; simp
  rw [hr']
  simp (disch:=omega) [go_sem,h]
  refine a0b ?_
  simp (disch:=omega) [go_sem,h]
  refine a0d (by decide) fun s2 hs2 hes2=> ?_
  simp (disch:=omega) [go_sem,hs2,h]
  refine a0b ?_
  simp (disch:=omega) [go_sem,hs2,h,h7,bad,dn,a05]
  refine a0d (by decide) fun s9 hs9 hes9=> ?_
  simp (disch:=omega) [go_sem,hs9,hs2,h,h7,bad,dn,a05]
 ·have hr':r=if ((decide (0<=x)&&decide (x<=2147483647))&&((decide (0<=y)&&decide (y<=62))&&b8j z false))=true then (⟨ash,false⟩,.nil) else bad 3:=by rw [<-hr]; simp [a1h,a1m,b8j]
  generalize hb:((decide (0<=x)&&decide (x<=2147483647))&&((decide (0<=y)&&decide (y<=62))&&b8j z false))=b at hr'
  rw [hr']
  clear hr hr'
  simp (disch:=omega) [go_sem,h]
  refine a0b ?_
  simp (disch:=omega) [go_sem,h]
  refine a0d (by decide) fun s2 hs2 hes2=> ?_
  simp (disch:=omega) [go_sem,hs2,h]
  refine a0b ?_
  simp (disch:=omega) [go_sem,hs2,h]
  refine a0d (by decide) fun s3 hs3 hes3=> ?_
  simp (disch:=omega) [go_sem,hs3,hs2,h]
  refine a0c (d20 x 0 2147483647) rfl rfl ?_
  cases f1:(decide (0<=x)&&decide (x<=2147483647))
  ·have hb':b=false:=by rw [<-hb,f1]; simp
   rw [hb',if_neg (by simp)]
   simp (disch:=omega) [go_sem,hs3,hs2,h,f1]
   refine a0b ?_
   simp (disch:=omega) [go_sem,hs3,hs2,h,h3,bad,dn,a05]
   refine a0d (by decide) fun s9 hs9 hes9=> ?_
   simp (disch:=omega) [go_sem,hs9,hs3,hs2,h,h3,bad,dn,a05]
  simp (disch:=omega) [go_sem,hs3,hs2,h,f1]
  refine a0c (d20 y 0 62) rfl rfl ?_
  cases f2:(decide (0<=y)&&decide (y<=62))
  ·have hb':b=false:=by rw [<-hb,f2]; simp
   rw [hb',if_neg (by simp)]
   simp (disch:=omega) [go_sem,hs3,hs2,h,f2]
   refine a0b ?_
   simp (disch:=omega) [go_sem,hs3,hs2,h,h3,bad,dn,a05]
   refine a0d (by decide) fun s9 hs9 hes9=> ?_
   simp (disch:=omega) [go_sem,hs9,hs3,hs2,h,h3,bad,dn,a05]
  simp (disch:=omega) [go_sem,hs3,hs2,h,f2]
  refine a0c (d3f z false) rfl rfl ?_
  cases f3:b8j z false
  ·have hb':b=false:=by rw [<-hb,f3]; simp
   rw [hb',if_neg (by simp)]
   simp (disch:=omega) [go_sem,hs3,hs2,h,f3]
   refine a0b ?_
   simp (disch:=omega) [go_sem,hs3,hs2,h,h3,bad,dn,a05]
   refine a0d (by decide) fun s9 hs9 hes9=> ?_
   simp (disch:=omega) [go_sem,hs9,hs3,hs2,h,h3,bad,dn,a05]
  have hb':b=true:=by rw [<-hb,f1,f2,f3]; rfl
  rw [hb',if_pos rfl]
  simp (disch:=omega) [go_sem,hs3,hs2,h,f3]
  refine a0c (a35 ash true la) rfl (by simp only [owI,a1l,a18,a28,Bool.and_true]) ?_
  simp (disch:=omega) [go_sem,hs3,hs2,h,a05]
theorem c81 (hS:SentO G bk) (args:List Int) (ins:List Ds) (hf:∀ d∈ins,d.shape.length < 2 ^ 40)  (h1:ins.length=a1r 11) (h2:args.length=a08 11):ACalls pg G a2d [li (11:Int),slI args,slD ins] (b8r bk (a1u 11 args ins)):=by
 have h7:=hS.val 6 (by decide)
 have h3:=hS.val 3 (by decide)
 have hn:ins.length < 2 ^ 40:=by
  rw [h1]; unfold a1r; split<;>(try split)<;>simp
 have e1:((a1r 11:Nat):Int)=(ins.length:Int):=by rw [h1]
 have e2:((a08 11:Nat):Int)=(args.length:Int):=by rw [h2]
 unfold a1u
 generalize hr:(if (ins.length=2/\ins[0]! ≠ins[1]!)\/((11:Int)=10/\ins[0]!.wide=false)\/((11:Int)=11/\ins[0]!.wide=true) then bad 6 else if a1h 11 args ins[0]!.wide=true then ((⟨ins[0]!.shape,a1m 11 ins[0]!.wide⟩,.nil):Dr) else bad 3)=r
 have hc:=a58 (G:=G) 11 (by omega)
 rw [e1,e2] at hc
 refine a1x rfl ?_
 simp (disch:=omega) [go_sem,a2h]
 refine a0c hc rfl rfl ?_
 simp (disch:=omega) [go_sem]
 refine b0o hS.three (op:=11) (args:=args) (ins:=ins) (r:=r) hn hf (by simp (disch:=omega) [go_sem]) (fun e he hm s h=> ?_) (fun hm s h=> ?_)
 ·rw [hm]
  simp (disch:=omega) [go_sem,h,dn]
 rw [hm]
 clear hm hc e1 e2
 obtain ⟨a,rfl⟩:=b6m (h1.trans (by decide))
 have la:=hf a (by simp)
 rw [sl1] at h
 obtain ⟨x,rfl⟩:=b6m (h2.trans (by decide))
 obtain ⟨ash,aw⟩:=a
 cases aw
 ·have hr':r=if b8j x false=true then (⟨ash,true⟩,.nil) else bad 3:=by rw [<-hr]; simp [a1h,a1m,b8j]
  rw [hr']
  clear hr hr'
  simp (disch:=omega) [go_sem,h]
  refine a0b ?_
  simp (disch:=omega) [go_sem,h]
  refine a0d (by decide) fun s2 hs2 hes2=> ?_
  simp (disch:=omega) [go_sem,hs2,h]
  refine a0b ?_
  simp (disch:=omega) [go_sem,hs2,h]
  refine a0d (by decide) fun s3 hs3 hes3=> ?_
  simp (disch:=omega) [go_sem,hs3,hs2,h]
  refine a0c (d3f x false) rfl rfl ?_
  cases f3:b8j x false
  ·rw [if_neg (by simp)]
   simp (disch:=omega) [go_sem,hs3,hs2,h,f3]
   refine a0b ?_
   simp (disch:=omega) [go_sem,hs3,hs2,h,h3,bad,dn,a05]
   refine a0d (by decide) fun s9 hs9 hes9=> ?_
   simp (disch:=omega) [go_sem,hs9,hs3,hs2,h,h3,bad,dn,a05]
  rw [if_pos (by simp)]
  simp (disch:=omega) [go_sem,hs3,hs2,h,f3]
  refine a0c (a35 ash false la) rfl (by simp only [owI,a1l,a18,a28,Bool.and_true]) ?_
  simp (disch:=omega) [go_sem,hs3,hs2,h,a05]
 ·have hr':r=bad 6:=by rw [<-hr]; simp
  rw [hr']
  simp (disch:=omega) [go_sem,h]
  refine a0b ?_
  simp (disch:=omega) [go_sem,h]
  refine a0d (by decide) fun s2 hs2 hes2=> ?_
  simp (disch:=omega) [go_sem,hs2,h]
  refine a0b ?_
  simp (disch:=omega) [go_sem,hs2,h,h7,bad,dn,a05]
  refine a0d (by decide) fun s9 hs9 hes9=> ?_
  simp (disch:=omega) [go_sem,hs9,hs2,h,h7,bad,dn,a05]
theorem e1v (hS:SentO G bk) (op:Int) (args:List Int) (ins:List Ds) (hf:∀ d∈ins,d.shape.length < 2 ^ 40) (ho:4<=op/\op<=11) (h1:ins.length=a1r op) (h2:args.length=a08 op):ACalls pg G a2d [li op,slI args,slD ins] (b8r bk (a1u op args ins)):=by
 obtain rfl | rfl | rfl | rfl | rfl | rfl | rfl | rfl:op=4\/op=5\/op=6\/op=7\/op=8\/op=9\/op=10\/op=11:=by omega
 ·exact d12 hS args ins hf h1 h2
 ·exact d13 hS args ins hf h1 h2
 ·exact d14 hS args ins hf h1 h2
 ·exact d15 hS args ins hf h1 h2
 ·exact d16 hS args ins hf h1 h2
 ·exact d17 hS args ins hf h1 h2
 ·exact c80 hS args ins hf h1 h2
 ·exact c81 hS args ins hf h1 h2
theorem a4p (r:Dr):a0p (b8r bk r)=true:=by simp [go_sem,a0p]
theorem f1m (hS:SentO G bk) (op:Int) (args:List Int) (ins:List Ds) (hf:∀ d∈ins,d.shape.length < 2 ^ 40) (hn:ins.length < 2 ^ 40) (ha:args.length < 2 ^ 40):ACalls pg G c3w [li op,slI args,slD ins] (b8r bk (opR op args ins)):=by
 have h7:=hS.val 6 (by decide)
 have h4:=hS.val 2 (by decide)
 refine b8u rfl ?_
 simp (disch:=omega) [go_sem,b7t]
 refine a0c (c4w op) rfl rfl ?_
 cases hk:a0t op
 ·rw [show opR op args ins=bad 5 by simp [opR,hk]]
  simp (disch:=omega) [go_sem]
  refine a0b ?_
  simp (disch:=omega) [go_sem,h4,bad,dn,a05]
  refine a0d (by decide) fun s2 hs2 hes2=> ?_
  simp (disch:=omega) [go_sem,hs2,h4,bad,dn,a05]
 simp (disch:=omega) [go_sem]
 refine a0c (f0q op) rfl rfl ?_
 by_cases k1:ins.length=a1r op
 ·have k1':(ins.length:Int)=(a1r op:Nat):=by omega
  have hop:4<=op/\op<=21:=by simpa [a0t] using hk
  by_cases k2:op=18
  ·subst k2
   obtain ⟨a,rfl⟩:=b6m (k1.trans (by decide))
   have la:=hf a (by simp)
   rw [show opR 18 args [a]=a4u args a by rw [opR,if_pos hk,if_pos ⟨k1,.inl rfl⟩]; rfl,sl1]
   simp (disch:=omega) [go_sem,<-k1']
   refine a0g (e4w hS args a la ha) (a4p _) (by simp (disch:=omega) [go_sem]) ?_
   simp (disch:=omega) [go_sem]
  ·simp (disch:=omega) [go_sem,k1',k2]
   refine a0c (e0u op) rfl rfl ?_
   by_cases k3:args.length=a08 op
   ·have k3':(args.length:Int)=(a08 op:Nat):=by omega
    obtain ho | rfl | rfl | rfl | rfl | rfl | rfl | rfl | rfl | rfl:(4<=op/\op<=11)\/op=12\/op=13\/op=14\/op=15\/op=16\/op=17\/op=19\/op=20\/op=21:=by omega
    ·rw [show opR op args ins=a1u op args ins by
      rw [opR,if_pos hk,if_pos ⟨k1,.inr k3⟩]
      simp only [show ¬ op=12 by omega,show ¬ op=13 by omega,show ¬ op=14 by omega,show ¬ op=15 by omega,show ¬ op=16 by omega,show ¬ op=17 by omega,show ¬ op=19 by omega,show ¬ op=20 by omega,show ¬ op=18 by omega,show ¬ op=21 by omega,or_self,if_false]]
     simp (disch:=omega) [go_sem,k1',k2,k3',show ¬ op=12 by omega,show ¬ op=13 by omega,show ¬ op=14 by omega,show ¬ op=15 by omega,show ¬ op=16 by omega,show ¬ op=17 by omega,show ¬ op=19 by omega,show ¬ op=20 by omega,show ¬ op=18 by omega,show ¬ op=21 by omega]
     refine a0g (e1v hS op args ins hf ho k1 k3) (a4p _) (by simp (disch:=omega) [go_sem]) ?_
     simp (disch:=omega) [go_sem]
    ·
     obtain ⟨a,b,rfl⟩:=b2b (k1.trans (by decide))
     have la:=hf a (by simp)
     have lb':=hf b (by simp)
     obtain ⟨x,y,rfl⟩:=b2b (k3.trans (by decide))
     rw [show opR 12 [x,y] [a,b]=c3v x y a b by rw [opR,if_pos hk,if_pos ⟨k1,.inr k3⟩]; rfl]
     rw [sl2]
     simp (disch:=omega) [go_sem,k1',k3']
     refine a0b ?_
     simp (disch:=omega) [go_sem]
     refine a47 (e3l hS x y a b (by omega) (by omega)) (a4p _) (by simp (disch:=omega) [go_sem]) (by simp (disch:=omega) [go_sem,a0r,a3e]) [46] (by simp) (by simp (disch:=omega) [go_sem]) ?_
     simp (disch:=omega) [go_sem,a0r,a3e]
     refine a0d (by decide) fun s2 hs2 he2=> ?_
     simp (disch:=omega) [go_sem,hs2]
    ·
     obtain ⟨a,b,rfl⟩:=b2b (k1.trans (by decide))
     have la:=hf a (by simp)
     have lb':=hf b (by simp)
     obtain ⟨x,y,z,rfl⟩:=d4x (k3.trans (by decide))
     rw [show opR 13 [x,y,z] [a,b]=b0n [x,y,z] a b by rw [opR,if_pos hk,if_pos ⟨k1,.inr k3⟩]; rfl]
     rw [sl2]
     simp (disch:=omega) [go_sem,k1',k3']
     refine a0b ?_
     simp (disch:=omega) [go_sem]
     refine a47 (d5v hS x y z a b (by omega) (by omega)) (a4p _) (by simp (disch:=omega) [go_sem]) (by simp (disch:=omega) [go_sem,a0r,a3e]) [58] (by simp) (by simp (disch:=omega) [go_sem]) ?_
     simp (disch:=omega) [go_sem,a0r,a3e]
     refine a0d (by decide) fun s2 hs2 he2=> ?_
     simp (disch:=omega) [go_sem,hs2]
    ·
     obtain ⟨a,rfl⟩:=b6m (k1.trans (by decide))
     have la:=hf a (by simp)
     obtain ⟨x,y,rfl⟩:=b2b (k3.trans (by decide))
     rw [show opR 14 [x,y] [a]=b20 [x,y] a by rw [opR,if_pos hk,if_pos ⟨k1,.inr k3⟩]; rfl]
     rw [sl1]
     simp (disch:=omega) [go_sem,k1',k3']
     refine a0g (d42 hS x y a (by omega)) (a4p _) (by simp (disch:=omega) [go_sem]) ?_
     simp (disch:=omega) [go_sem]
    ·
     obtain ⟨a,rfl⟩:=b6m (k1.trans (by decide))
     have la:=hf a (by simp)
     obtain ⟨x,y,rfl⟩:=b2b (k3.trans (by decide))
     rw [show opR 15 [x,y] [a]=b20 [x,y] a by rw [opR,if_pos hk,if_pos ⟨k1,.inr k3⟩]; rfl]
     rw [sl1]
     simp (disch:=omega) [go_sem,k1',k3']
     refine a0g (d42 hS x y a (by omega)) (a4p _) (by simp (disch:=omega) [go_sem]) ?_
     simp (disch:=omega) [go_sem]
    ·
     rw [show opR 16 args ins=a42 16 ins by rw [opR,if_pos hk,if_pos ⟨k1,.inr k3⟩]; rfl]
     simp (disch:=omega) [go_sem,k1',k3']
     refine a0g (c6n hS 16 ins hf (by rw [k1]; decide)) (a4p _) (by simp (disch:=omega) [go_sem]) ?_
     simp (disch:=omega) [go_sem]
    ·
     rw [show opR 17 args ins=a42 17 ins by rw [opR,if_pos hk,if_pos ⟨k1,.inr k3⟩]; rfl]
     simp (disch:=omega) [go_sem,k1',k3']
     refine a0g (c6n hS 17 ins hf (by rw [k1]; decide)) (a4p _) (by simp (disch:=omega) [go_sem]) ?_
     simp (disch:=omega) [go_sem]
    ·
     rw [show opR 19 args ins=a42 19 ins by rw [opR,if_pos hk,if_pos ⟨k1,.inr k3⟩]; rfl]
     simp (disch:=omega) [go_sem,k1',k3']
     refine a0g (c6n hS 19 ins hf (by rw [k1]; decide)) (a4p _) (by simp (disch:=omega) [go_sem]) ?_
     simp (disch:=omega) [go_sem]
    ·
     rw [show opR 20 args ins=a42 20 ins by rw [opR,if_pos hk,if_pos ⟨k1,.inr k3⟩]; rfl]
     simp (disch:=omega) [go_sem,k1',k3']
     refine a0g (c6n hS 20 ins hf (by rw [k1]; decide)) (a4p _) (by simp (disch:=omega) [go_sem]) ?_
     simp (disch:=omega) [go_sem]
    ·
     obtain ⟨a,rfl⟩:=b6m (k1.trans (by decide))
     have la:=hf a (by simp)
     rw [show opR 21 args [a]=b4i a by rw [opR,if_pos hk,if_pos ⟨k1,.inr k3⟩]; rfl]
     rw [sl1]
     simp (disch:=omega) [go_sem,k1',k3']
     refine a0g (e5z hS a (by omega)) (a4p _) (by simp (disch:=omega) [go_sem]) ?_
     simp (disch:=omega) [go_sem]
   ·have k3':¬ (args.length:Int)=(a08 op:Nat):=by omega
    rw [show opR op args ins=bad 6 by rw [opR,if_pos hk,if_neg (fun h=>h.2.elim k2 k3)]]
    simp (disch:=omega) [go_sem,k1',k2,k3']
    refine a0b ?_
    simp (disch:=omega) [go_sem,h7,bad,dn,a05]
    refine a0d (by decide) fun s2 hs2 hes2=> ?_
    simp (disch:=omega) [go_sem,hs2,h7,bad,dn,a05]
 ·have k1':¬ (ins.length:Int)=(a1r op:Nat):=by omega
  rw [show opR op args ins=bad 6 by rw [opR,if_pos hk,if_neg (fun h=>k1 h.1)]]
  simp (disch:=omega) [go_sem,k1']
  refine a0b ?_
  simp (disch:=omega) [go_sem,h7,bad,dn,a05]
  refine a0d (by decide) fun s2 hs2 hes2=> ?_
  simp (disch:=omega) [go_sem,hs2,h7,bad,dn,a05]
end
end Go.Ideal.Tryz
end
section
namespace Go.Ideal.Tryz
attribute [local go_sem] eD
def lkD (l:Lk) (ks:List Int):List Ds:=ks.map fun k=>l.descs[k.toNat]!
@[simp] theorem c9u {l:Lk} {ks:List Int}:(lkD l ks).length=ks.length:=by simp [lkD]
def a12 (l:Lk) (n:Nd):Dr×Lk:=
 if a0t n.op=true then (opR n.op n.args (lkD l n.ins),l)
 else if n.op < 1\/3 < n.op then (bad 5,l)
 else if 0 < n.ins.length then (bad 6,l)
 else if n.op=1 then inR l n.args
 else if n.op=3 then wtR l n.args
 else if 0 < n.args.length then (bad 6,l)
 else if (a7m n.shape n.wide n.data).isNil=true then ((⟨n.shape,n.wide⟩,.nil),l)
 else ((dn,a7m n.shape n.wide n.data),l)
structure Lk.fin (l:Lk):Prop where
 descs:∀ d∈l.descs,d.shape.length < 2 ^ 40
 hin:l.hin.shape.length < 2 ^ 36
 vals:∀ d∈l.vals,d.shape.length < 2 ^ 36
 ws:l.ws.length<=8
theorem a8k {args:List Int} {a:Nat} (h:args.length < 2 ^ 36):(a2n args a).1.shape.length < 2 ^ 36:=by
 unfold a2n chk bad dn
 split
 ·simp
 ·split
  ·simp
  ·split
   ·simp; omega
   ·simp
theorem b6j {α:Type} {f:α->List AV} {k j:Nat} {xs:List α} (hf:∀ x,(f x).length=k) (h:xs.length=j):(fm f xs).take (j*k)=fm f xs:=by rw [<-h]; exact c0g hf
section
variable {G:GG} {bk:Nat->Nat×Nat} {Q:Exit->St->Prop} {st:St}
theorem d6v {l:Lk} {n:Nd} (hi:∀ k∈n.ins,0<=k/\k < l.descs.length) (hl:n.ins.length < 2 ^ 36)
  (h:st.s 0= .var (eLk l)/\st.s 3= .var (a5q n)/\st.s 4= .var [.own 1 0 [],lb false]/\st.s 5= .lit .nilIface/\st.s 6= .own 2 0 []/\st.s 15=slI n.ins/\st.s 16=li n.ins.length/\st.s 17=li 0)
  (hex:∀ s:St,s.s 0= .var (eLk l)/\s.s 3= .var (a5q n)/\s.s 4= .var [.own 1 0 [],lb false]/\s.s 5= .lit .nilIface/\s.s 6= .own 2 n.ins.length (fm eD (lkD l n.ins))->Q (.exit 1) s):AW pg G 95 (.loop a22) Q st:=by
 refine a0u Nat (fun j st=>j<=n.ins.length/\st.s 0= .var (eLk l)/\st.s 3= .var (a5q n)/\st.s 4= .var [.own 1 0 [],lb false]/\st.s 5= .lit .nilIface/\st.s 6= .own 2 j (fm eD (lkD l (n.ins.take j)))/\st.s 15=slI n.ins/\st.s 16=li n.ins.length/\st.s 17=li j) (fun j=>n.ins.length - j) 0 ⟨by omega,by simpa [fm,lkD] using h⟩ ?_
 clear h
 rintro j st K ⟨hj,h⟩ hK
 by_cases c:j < n.ins.length
 ·have hk:=hi _ (List.getElem_mem c)
  obtain ⟨kk,hkk⟩:∃ kk:Nat,n.ins[j]=kk:=⟨n.ins[j].toNat,by omega⟩
  rw [hkk] at hk
  have hk2:kk < l.descs.length:=by omega
  simp only [eLk] at h
  have ht:(fm eD (lkD l (n.ins.take j))).take (j*2)=fm eD (lkD l (n.ins.take j)):=b6j (fun _=>rfl) (by simp; omega)
  simp (disch:=omega) [go_sem,a22,h,c,hkk,hk2]
  have e:l.descs[((kk:Int)).toNat]! =l.descs[kk]:=by simp [hk2]
  refine hK (j+1) _ ⟨by omega,?_⟩ (by omega)
  have e2:lkD l (n.ins.take (j+1))=lkD l (n.ins.take j)++[l.descs[kk]]:=by
   rw [List.take_succ_eq_append_getElem c,lkD,List.map_append,List.map_cons,List.map_nil,hkk,e]; rfl
  rw [e2,b17,a9v]
  simp (disch:=omega) [go_sem,h,eLk,ht]
 ·have:j=n.ins.length:=by omega
  subst this
  simp (disch:=omega) [go_sem,a22,h]
  refine hex _ ?_
  simp (disch:=omega) [go_sem,h]
theorem e4h (hS:SentO G bk) (l:Lk) (n:Nd) (hf:l.fin) (hn:n.sh) (hi:a0t n.op=true->∀ k∈n.ins,0<=k/\k < l.descs.length):ACallsX pg G b2k [.var (eLk l),.agg (a5q n)] (b8r bk (a12 l n).1) [(0,.var (eLk (a12 l n).2))]:=by
 have h7:=hS.val 6 (by decide)
 have h4:=hS.val 2 (by decide)
 have hn1:=hn.ins
 have hn2:=hn.args
 have hn3:=hn.shape
 have hn4:=hn.data
 refine a9m (pins:=[0]) (by kernel_rfl) rfl rfl (by simp [go_sem]) rfl ?_
 simp (disch:=omega) [go_sem,a7i,a5q]
 refine a0c (c4w n.op) rfl rfl ?_
 cases hk:a0t n.op with
 | true=>
  simp (disch:=omega) [go_sem,hk]
  refine d6v (l:=l) (n:=n) (hi hk) hn1 (by simp (disch:=omega) [go_sem,a5q]) (fun s h=> ?_)
  simp only [a5q] at h
  simp (disch:=omega) [go_sem,h]
  have spec:=f1m hS n.op n.args (lkD l n.ins) (by
   intro d hd
   simp only [lkD,List.mem_map] at hd
   obtain ⟨k,hk2,rfl⟩:=hd
   obtain ⟨h1,h2⟩:=hi hk k hk2
   have hlt:k.toNat < l.descs.length:=by omega
   have:=hf.descs _ (List.getElem_mem hlt)
   simp only [hlt,getElem!_pos]
   omega) (by simp; omega) (by omega)
  simp only [slD,c9u] at spec
  have ht:(fm eD (lkD l n.ins)).take (n.ins.length*2)=fm eD (lkD l n.ins):=b6j (fun _=>rfl) (by simp)
  simp (disch:=omega) [go_sem,ht]
  refine a5w spec (a4p _) ?_ ?_<;>
  simp (disch:=omega) [go_sem,h,a0f,a12,hk,eLk]
 | false=>
  simp (disch:=omega) [go_sem,hk]
  by_cases o1:n.op < 1
  ·simp (disch:=omega) [go_sem,o1]
   refine a0b ?_
   simp (disch:=omega) [go_sem,h4]
   refine a0d (by decide) fun s3 hs3 hep3=> ?_
   simp (disch:=omega) [go_sem,hs3,a12,hk,o1,bad,dn,a05,eLk]
  by_cases o3:3 < n.op
  ·simp (disch:=omega) [go_sem,o1,o3]
   refine a0b ?_
   simp (disch:=omega) [go_sem,h4]
   refine a0d (by decide) fun s3 hs3 hep3=> ?_
   simp (disch:=omega) [go_sem,hs3,a12,hk,o1,o3,bad,dn,a05,eLk]
  by_cases hi0:0 < n.ins.length
  ·simp (disch:=omega) [go_sem,o1,o3,hi0]
   refine a0b ?_
   simp (disch:=omega) [go_sem,h7]
   refine a0d (by decide) fun s3 hs3 hep3=> ?_
   simp (disch:=omega) [go_sem,hs3,a12,hk,o1,o3,hi0,bad,dn,a05,eLk]
  by_cases p1:n.op=1
  ·have spec:=f6b hS l n hf.hin (by omega) (a8k (by omega))
   simp only [a5q,p1] at spec
   simp (disch:=omega) [go_sem,o1,o3,hi0,p1]
   refine b98 spec rfl rfl rfl (by simp (disch:=omega) [go_sem]) ?_
   simp (disch:=omega) [go_sem,a0f,a12,hk,o1,o3,hi0,p1,show a0t 1=false from rfl]
  by_cases p3:n.op=3
  ·have spec:=f6o hS l n hf.vals hf.ws (by omega) (a8k (by omega))
   simp only [a5q,p3] at spec
   simp (disch:=omega) [go_sem,o1,o3,hi0,p1,p3]
   refine b98 spec rfl rfl rfl (by simp (disch:=omega) [go_sem]) ?_
   simp (disch:=omega) [go_sem,a0f,a12,hk,o1,o3,hi0,p1,p3,show a0t 3=false from rfl]
  by_cases ha0:0 < n.args.length
  ·simp (disch:=omega) [go_sem,o1,o3,hi0,p1,p3,ha0]
   refine a0b ?_
   simp (disch:=omega) [go_sem,h7]
   refine a0d (by decide) fun s3 hs3 hep3=> ?_
   simp (disch:=omega) [go_sem,hs3,a12,hk,o1,o3,hi0,p1,p3,ha0,bad,dn,a05,eLk]
  simp (disch:=omega) [go_sem,o1,o3,hi0,p1,p3,ha0]
  refine a0g (d1b hS.three n.shape n.wide n.data (by omega) (by omega)) (a0z _) (by simp (disch:=omega) [go_sem]) ?_
  cases hv:(a7m n.shape n.wide n.data).isNil with
  | false=>simp (disch:=omega) [go_sem,hv,a0f,a12,hk,o1,o3,hi0,p1,p3,ha0,dn]
  | true=>
   simp (disch:=omega) [go_sem,hv]
   refine a0g ((a35 n.shape n.wide (by omega)).shown (res':= .agg [slI n.shape,lb n.wide]) (by simp (disch:=omega) [go_sem])) (by simp (disch:=omega) [go_sem]) (by simp (disch:=omega) [go_sem]) ?_
   simp (disch:=omega) [go_sem,hv,a0f,a12,hk,o1,o3,hi0,p1,p3,ha0,a05]
end
end Go.Ideal.Tryz
end
section
namespace Go.Ideal.Tryz
attribute [local go_sem] eD eT eV eI eP
section
variable {G:GG} {bk:Nat->Nat×Nat} {Q:Exit->St->Prop} {st:St}
def LB (r:Dr):Prop:=r.1.shape.length < 2 ^ 40
theorem b10 {e:Er} {r:Dr} (h:LB r):LB (chk e r):=by unfold chk; split; exact h; show (0:Nat) < 2 ^ 40; decide
theorem a67 {g:Nat}:LB (bad g):=by show (0:Nat) < 2 ^ 40; decide
theorem c3y {r:Dr} (h:LB r):∀ {l:List Ds},LB (a9b l r)
 | []=>h
 | d::ds=>b10 (c3y h)
theorem a72 {c:Prop} [Decidable c] {a b:Dr} (h:LB a) (h2:LB b):LB (if c then a else b):=by split; exact h; exact h2
theorem c3z {sh:List Int} {w:Bool} (h:sh.length < 2 ^ 40):LB (a6f sh w):=b10 h
theorem c9i {ins:List Ds} (hf:∀ d∈ins,d.shape.length < 2 ^ 40) (k:Nat):(ins[k]!).shape.length < 2 ^ 40:=by
 by_cases h:k < ins.length
 ·have:=hf _ (List.getElem_mem h); simpa [h] using this
 ·simp only [getElem!_def,List.getElem?_eq_none (Nat.le_of_not_lt h)]
  show (0:Nat) < 2 ^ 40
  decide
theorem c7m {op:Int} {ins:List Ds} (hf:∀ d∈ins,d.shape.length < 2 ^ 40):(a1i op ins).1.shape.length < 2 ^ 40:=by
 have h0:=c9i hf 0
 unfold a1i
 split
 ·exact h0
 ·split
  ·split<;>simp [dn]
  ·split
   ·simp [dn]
   ·simp only [List.length_dropLast]; omega
theorem d6x {op:Int} {args:List Int} {ins:List Ds} (hf:∀ d∈ins,d.shape.length < 2 ^ 40) (ha:args.length < 2 ^ 40):(opR op args ins).1.shape.length < 2 ^ 40:=by
 have h0:=c9i hf 0
 have hl:=c7m (op:=op) hf
 have l2:∀ {a b:Int},([a,b]:List Int).length < 2 ^ 40:=by intros; simp
 have l3:∀ {a b c:Int},([a,b,c]:List Int).length < 2 ^ 40:=by intros; simp
 show LB (opR op args ins)
 unfold opR
 refine a72 (a72 ?_ a67) a67
 refine a72 (b10 (b10 (a72 (a72 (c3z l2) a67) a67))) ?_
 refine a72 (b10 (b10 (a72 (a72 (a72 (c3z l3) a67) a67) a67))) ?_
 refine a72 (b10 (a72 (a72 (a72 l3 a67) a67) a67)) ?_
 refine a72 (c3y (a72 (c3z hl) a67)) ?_
 refine a72 (b10 (b10 (a72 ha a67))) ?_
 refine a72 (b10 (a72 l2 a67)) ?_
 exact c3y (a72 a67 (a72 (show LB (⟨ins[0]!.shape,a1m op ins[0]!.wide⟩,.nil) from h0) a67))
def Er.snt (e:Er):Prop:=e= .nil\/∃ g,g < 21/\e= .s g
theorem d7s {g:Nat} (h:g < 21):(Er.s g).snt:= .inr ⟨g,h,rfl⟩
theorem b78:Er.nil.snt:= .inl rfl
theorem e5p (sh:List Int):(a01 sh).snt:=by
 rcases a2m sh with h | h | h<;>rw [h]
 ·exact b78
 ·exact d7s (by decide)
 ·exact d7s (by decide)
def SB (r:Dr):Prop:=r.2.snt
theorem b11 {sh:List Int} {r:Dr} (h:SB r):SB (chk (a01 sh) r):=by unfold chk; split; exact h; exact e5p sh
theorem c8i {g:Nat} (h:g < 21):SB (bad g):=d7s h
theorem c33 {r:Dr} (h:SB r):∀ {l:List Ds},SB (a9b l r)
 | []=>h
 | d::ds=>b11 (c33 h)
theorem a73 {c:Prop} [Decidable c] {a b:Dr} (h:SB a) (h2:SB b):SB (if c then a else b):=by split; exact h; exact h2
theorem c8j {d:Ds}:SB (d,.nil):=b78
theorem c34 {sh:List Int} {w:Bool}:SB (a6f sh w):=b11 c8j
theorem d6y {op:Int} {args:List Int} {ins:List Ds}:(opR op args ins).2.snt:=by
 have b3:SB (bad 3):=c8i (by decide)
 have b5:SB (bad 5):=c8i (by decide)
 have b6:SB (bad 6):=c8i (by decide)
 show SB (opR op args ins)
 unfold opR
 refine a73 (a73 ?_ b6) b5
 refine a73 (b11 (b11 (a73 (a73 c34 b3) b6))) ?_
 refine a73 (b11 (b11 (a73 (a73 (a73 c34 b6) b3) b6))) ?_
 refine a73 (b11 (a73 (a73 (a73 c8j b6) b3) b6)) ?_
 refine a73 (c33 (a73 c34 b6)) ?_
 refine a73 (b11 (b11 (a73 c8j b6))) ?_
 refine a73 (b11 (a73 c8j b6)) ?_
 exact c33 (a73 b6 (a73 c8j b3))
def Around (G:GG) (bk:Nat->Nat×Nat):Prop:=(∀ (k:Int) (g:Nat),g < 21->ACalls pg G a71 [li k,a05 bk (.s g)] (a05 bk (.at k (.s g))))/\∀ (k q:Int) (g:Nat),g < 21->ACalls pg G a71 [li k,a05 bk (.at q (.s g))] (a05 bk (.at k (.s g)))
def Er.wb (e:Er):Prop:=e= .nil\/(∃ g,g < 21/\e= .s g)\/∃ p g,g < 21/\e= .at p (.s g)
theorem Er.snt.wb {e:Er} (h:e.snt):e.wb:=h.elim .inl fun h=> .inr (.inl h)
theorem Around.ofw {G:GG} {bk:Nat->Nat×Nat} (h:Around G bk) {e:Er} (he:e.wb) (hn:e.isNil=false) (k:Int):ACalls pg G a71 [li k,a05 bk e] (a05 bk (atE k e)):=by
 rcases he with rfl | ⟨g,hg,rfl⟩ | ⟨q,g,hg,rfl⟩
 ·simp [Er.isNil] at hn
 ·exact h.1 k g hg
 ·exact h.2 k q g hg
end
end Go.Ideal.Tryz
end
section
namespace Go.Ideal.Tryz
def b15:IC:=(.seq (.reg [oo 4 (.asg (.c .nilIface))]) (.seq (.reg [om 5 0,
 om 6 1,
 oc 7 59 [(false,(.t 5)),(false,(.t 6))] [3,35],
 oo 4 (.asg (.t 7))]) .ret))
abbrev b8n:Nat:=114
theorem b4u:fnC pg 114 8 [(.tmp 4)] b15:=a0s Go.Proofs.Tryz.f114 [(.tmp 4)] (by kernel_rfl)
theorem d1o {G:GG} {bk:Nat->Nat×Nat} (hA:Around G bk) {e:Er} (he:e.wb) (hn:e.isNil=false) (k:Int):ACalls pg G b8n [li k,a05 bk e] (a05 bk (atE k e)):=by
 refine b4u rfl ?_
 simp (disch:=omega) [go_sem,b15]
 refine a0g (hA.ofw he hn k) (a0z _) (by simp (disch:=omega) [go_sem]) ?_
 simp (disch:=omega) [go_sem]
theorem a9h {l:Lk} {n:Nd}:(a12 l n).2.descs=l.descs/\(a12 l n).2.ord=l.ord:=by
 unfold a12 inR wtR
 repeat' split
 all_goals exact ⟨rfl,rfl⟩
theorem c6c:∀ {keys:List Int} {vals:List Ds} {n:Int} {x d:Ds},d∈(b6k keys vals n x).2->d=x\/d∈vals
 | [],_,n,x,d,h=>by simp [b6k] at h; exact .inl h
 | k::ks,[],n,x,d,h=>by simp [b6k] at h; exact .inl h
 | k::ks,v::vs,n,x,d,h=>by
  simp only [b6k] at h
  split at h
  ·rcases List.mem_cons.1 h with h | h
   ·exact .inl h
   ·exact .inr (by simp [h])
  ·rcases List.mem_cons.1 h with h | h
   ·exact .inr (by simp [h])
   ·rcases c6c h with h | h
    ·exact .inl h
    ·exact .inr (by simp [h])
theorem b7p {l:Lk} {n:Nd} (hf:l.fin) (hn:n.sh):(a12 l n).2.fin:=by
 obtain ⟨f1,f2,f3,f4⟩:=hf
 have hL:∀ a,(a2n n.args a).1.shape.length < 2 ^ 36:=fun a=>a8k hn.args
 unfold a12
 split
 ·exact ⟨f1,f2,f3,f4⟩
 split
 ·exact ⟨f1,f2,f3,f4⟩
 split
 ·exact ⟨f1,f2,f3,f4⟩
 split
 ·unfold inR
  split
  ·split
   ·exact ⟨f1,f2,f3,f4⟩
   ·exact ⟨f1,hL 0,f3,f4⟩
  ·exact ⟨f1,f2,f3,f4⟩
 split
 ·unfold wtR
  split
  ·exact ⟨f1,f2,f3,f4⟩
  split
  ·exact ⟨f1,f2,f3,f4⟩
  split
  ·split
   ·rename_i hk _ _
    refine ⟨f1,f2,fun d hd=> ?_,?_⟩
    ·rcases c6c hd with rfl | hd
     ·exact hL 1
     ·exact f3 d hd
    ·simp only [List.length_set,a6o,List.length_append,List.length_replicate]
     omega
   ·exact ⟨f1,f2,f3,f4⟩
  ·exact ⟨f1,f2,f3,f4⟩
 split
 ·exact ⟨f1,f2,f3,f4⟩
 split
 ·exact ⟨f1,f2,f3,f4⟩
 ·exact ⟨f1,f2,f3,f4⟩
theorem b7q {l:Lk} {n:Nd} (hf:l.fin) (hn:n.sh) (hi:a0t n.op=true->∀ k∈n.ins,0<=k/\k < l.descs.length):(a12 l n).1.1.shape.length < 2 ^ 40:=by
 have hL:∀ a,(a2n n.args a).1.shape.length < 2 ^ 36:=fun a=>a8k hn.args
 have hs:=hn.shape
 have ha:=hn.args
 unfold a12
 split
 ·rename_i hk
  refine d6x (fun d hd=> ?_) (by omega)
  simp only [lkD,List.mem_map] at hd
  obtain ⟨k,hk2,rfl⟩:=hd
  obtain ⟨h1,h2⟩:=hi hk k hk2
  have hlt:k.toNat < l.descs.length:=by omega
  simp only [hlt,getElem!_pos]
  exact hf.descs _ (List.getElem_mem hlt)
 split
 ·simp [bad,dn]
 split
 ·simp [bad,dn]
 split
 ·have:=hL 0
  unfold inR
  split
  ·split
   ·simp [bad,dn]
   ·simp only; omega
  ·simp [dn]
 split
 ·have:=hL 1
  unfold wtR
  split
  ·simp [bad,dn]
  split
  ·simp [bad,dn]
  split
  ·split
   ·simp only; omega
   ·simp [bad,dn]
  ·simp [dn]
 split
 ·simp [bad,dn]
 split
 ·simp only; omega
 ·simp [dn]
theorem c8y {sh:List Int}:(a01 sh).snt:=by
 rcases a2m sh with h | h | h<;>rw [h]
 ·exact b78
 ·exact .inr ⟨2,by decide,rfl⟩
 ·exact .inr ⟨3,by decide,rfl⟩
theorem a8l {args:List Int} {a:Nat}:(a2n args a).2.snt:=by
 unfold a2n
 split
 ·exact .inr ⟨6,by decide,rfl⟩
 split
 ·exact .inr ⟨3,by decide,rfl⟩
 ·unfold chk
  split
  ·exact b78
  ·exact c8y
theorem c0m {l:Lk} {n:Nd}:(a12 l n).1.2.wb:=by
 unfold a12
 split
 ·exact d6y.wb
 split
 ·exact .inr (.inl ⟨5,by decide,rfl⟩)
 split
 ·exact .inr (.inl ⟨6,by decide,rfl⟩)
 split
 ·unfold inR
  split
  ·split
   ·exact .inr (.inl ⟨6,by decide,rfl⟩)
   ·exact a8l.wb
  ·exact a8l.wb
 split
 ·unfold wtR
  split
  ·exact .inr (.inl ⟨6,by decide,rfl⟩)
  split
  ·exact .inr (.inl ⟨3,by decide,rfl⟩)
  split
  ·split
   ·exact a8l.wb
   ·exact .inr (.inl ⟨6,by decide,rfl⟩)
  ·exact a8l.wb
 split
 ·exact .inr (.inl ⟨6,by decide,rfl⟩)
 split
 ·exact b78.wb
 ·exact c5p n.shape n.wide n.data
end Go.Ideal.Tryz
end
section
namespace Go.Ideal.Tryz
attribute [local go_sem] eD
instance:Inhabited Nd:=⟨⟨0,[],[],[],false,[]⟩⟩
structure Sn where
 ord:List Int
 descs:List Ds
 hin:Ds
 ws:List Ds
def sn0:Sn:=⟨[],[],dn,[]⟩
def eSn (s:Sn):List AV:=[slI s.ord,slD s.descs,slI s.hin.shape,lb s.hin.wide,slD s.ws]
def Lk.sn (l:Lk):Sn:=⟨l.ord,l.descs,l.hin,l.ws⟩
def a1y (ns:List Nd):Lk->List Int->Sn×Er
 | l,[]=>(l.sn,.nil)
 | l,i::is=>if (a12 l ns[i.toNat]!).1.2.isNil=true then a1y ns { (a12 l ns[i.toNat]!).2 with descs:=(a12 l ns[i.toNat]!).2.descs.set i.toNat (a12 l ns[i.toNat]!).1.1 } is else (sn0,atE i (a12 l ns[i.toNat]!).1.2)
def lk0 (ord:List Int) (n:Nat):Lk:=⟨ord,List.replicate n dn,dn,[],false,[],[]⟩
def ofR (g:Gr):Sn×Er:=
 if 64 < g.nodes.length then (sn0,.s 2)
 else if g.out < 0\/g.nodes.length<=g.out then (sn0,.s 0)
 else match a9i (g.nodes.map (·.ins)) with
  | .error e=>(sn0,.at e.1 (.s e.2))
  | .ok ord=>a1y g.nodes (lk0 ord g.nodes.length) ord
section
variable {G:GG} {bk:Nat->Nat×Nat} {Q:Exit->St->Prop} {st:St}
abbrev zSn:AV:= .var [.own 1 0 [],.own 2 0 [],.own 1 0 [],lb false,.own 2 0 []]
theorem f1j {g:Gr} (hl:g.nodes.length<=64)
  (h:st.s 1= .var [slN g.nodes,li g.out]/\st.s 2=zSn/\st.s 3= .lit .nilIface/\st.s 4= .own 1 0 []/\st.s 33=slN g.nodes/\st.s 34=li g.nodes.length/\st.s 35=li 0)
  (hex:∀ s:St,s.s 1= .var [slN g.nodes,li g.out]/\s.s 2=zSn/\s.s 3= .lit .nilIface/\s.s 4= .own 1 g.nodes.length ((g.nodes.map (·.ins)).map slI)->Q (.exit 0) s):AW pg G 108 (.loop a9j) Q st:=by
 refine a0u Nat (fun j st=>j<=g.nodes.length/\st.s 1= .var [slN g.nodes,li g.out]/\st.s 2=zSn/\st.s 3= .lit .nilIface/\st.s 4= .own 1 j (((g.nodes.take j).map (·.ins)).map slI)/\st.s 33=slN g.nodes/\st.s 34=li g.nodes.length/\st.s 35=li j) (fun j=>g.nodes.length - j) 0 ⟨by omega,by simpa using h⟩ ?_
 clear h
 rintro j st K ⟨hj,h⟩ hK
 by_cases c:j < g.nodes.length
 ·have e2:((g.nodes.take (j+1)).map (·.ins)).map slI=((g.nodes.take j).map (·.ins)).map slI++[slI g.nodes[j].ins]:=by
   rw [List.take_succ_eq_append_getElem c,List.map_append,List.map_append]; rfl
  have ht:(((g.nodes.take j).map (·.ins)).map slI).take j=((g.nodes.take j).map (·.ins)).map slI:=List.take_of_length_le (by simp; omega)
  generalize hv:((g.nodes.take j).map (·.ins)).map slI=v at *
  simp (disch:=omega) [go_sem,a9j,h,c,ht]
  refine hK (j+1) _ ⟨by omega,?_⟩ (by omega)
  rw [e2]
  simp (disch:=omega) [go_sem,h,ht]
 ·have:j=g.nodes.length:=by omega
  subst this
  rw [List.take_length] at h
  generalize hv:(g.nodes.map (·.ins)).map slI=v at *
  simp (disch:=omega) [go_sem,a9j,h]
  exact hex _ (by simp (disch:=omega) [go_sem,h])
theorem c5d {n:Nat}:a6s n [.sl 0 [],.lit (.bool false)]=fm eD (List.replicate n dn):=by
 induction n with
 | zero=>rfl
 | succ n ih=>rw [List.replicate_succ,a7a,<-ih]; simp [a6s,List.replicate_succ,eD,dn]
theorem f1k (hS:SentO G bk) (hA:Around G bk) {g:Gr} (hf:∀ n∈g.nodes,n.sh) (hl:g.nodes.length<=64) {ord:List Int} (hord:∀ x∈ord,0<=x/\x < (g.nodes.length:Int)) (hlo:ord.length < 2 ^ 36)
  (hins:∀ n∈g.nodes,∀ k∈n.ins,0<=k/\k < (g.nodes.length:Int)) {l0:Lk} (hl0:l0.fin) (hd0:l0.descs.length=g.nodes.length)
  (h:st.s 1= .var [slN g.nodes,li g.out]/\st.s 2=zSn/\st.s 3= .lit .nilIface/\st.s 7= .var (eLk l0)/\st.s 73=slI ord/\st.s 74=li ord.length/\st.s 75=li 0)
  (hret:∀ e,a1y g.nodes l0 ord=(sn0,e)->∀ s:St,s.s 2= .var (eSn sn0)/\s.s 3=a05 bk e->Q .ret s)
  (hex:∀ l,a1y g.nodes l0 ord=(l.sn,.nil)->∀ s:St,s.s 2=zSn/\s.s 7= .var (eLk l)->Q (.exit 2) s):AW pg G 108 (.loop a9k) Q st:=by
 refine a0u (Nat×Lk) (fun p st=>p.1<=ord.length/\p.2.fin/\p.2.descs.length=g.nodes.length/\a1y g.nodes p.2 (ord.drop p.1)=a1y g.nodes l0 ord/\st.s 1= .var [slN g.nodes,li g.out]/\st.s 2=zSn/\st.s 3= .lit .nilIface/\st.s 7= .var (eLk p.2)/\st.s 73=slI ord/\st.s 74=li ord.length/\st.s 75=li p.1) (fun p=>ord.length - p.1) (0,l0) ⟨by simp,hl0,hd0,by simp,h⟩ ?_
 clear h
 rintro ⟨j,l⟩ st K ⟨hj,hfl,hd,hm,h⟩ hK
 simp only at hj hfl hd hm h
 by_cases c:j < ord.length
 ·have hx:=hord _ (List.getElem_mem c)
  obtain ⟨i,hi⟩:∃ i:Nat,ord[j]=i:=⟨ord[j].toNat,by omega⟩
  rw [hi] at hx
  have hin:i < g.nodes.length:=by omega
  have hmem:=List.getElem_mem hin
  have hn:=hf _ hmem
  have spec:=e4h hS l g.nodes[i] hfl hn (fun _ k hk=>by rw [hd]; exact hins _ hmem k hk)
  rw [List.drop_eq_getElem_cons c,a1y,hi,show g.nodes[((i:Int)).toNat]! =g.nodes[i] by simp [hin]] at hm
  have hfin:=b7p hfl hn
  have hlen:=b7q hfl hn (fun _ k hk=>by rw [hd]; exact hins _ hmem k hk)
  have hwb:=c0m (l:=l) (n:=g.nodes[i])
  have hde:=(a9h (l:=l) (n:=g.nodes[i])).1
  generalize hr:a12 l g.nodes[i]=r at *
  obtain ⟨⟨d,e⟩,l2⟩:=r
  simp only at hm hfin hlen hwb hde
  simp only [a5q] at spec
  simp (disch:=omega) [go_sem,a9k,h,c,hi,hin]
  refine b98 spec rfl rfl rfl (by simp (disch:=omega) [go_sem,h]) ?_
  cases he:e.isNil with
  | false=>
   simp (disch:=omega) [go_sem,h,he,a0f]
   refine a0g (d1o hA hwb he i) (a0z _) (by simp (disch:=omega) [go_sem,h]) ?_
   simp (disch:=omega) [go_sem,h,he,a0f]
   refine hret (atE i e) (by rw [<-hm]; simp [he]) _ (by simp (disch:=omega) [go_sem,h,sn0,eSn,dn,a5s])
  | true=>
   simp (disch:=omega) [go_sem,h,he,a0f,eLk]
   have hi2:i < l2.descs.length:=by rw [hde,hd]; exact hin
   have hi3:i*2+2<=l2.descs.length*2:=by omega
   refine a0b ?_
   simp (disch:=omega) [go_sem,h,hi2,hi3]
   refine a0d (by decide) fun s3 hs3 hep3=> ?_
   simp (disch:=omega) [go_sem,hs3,hep3,h,hi2,hi3,b62]
   simp only [he,if_true,Int.toNat_natCast] at hm
   refine hK (j+1,{ l2 with descs:=l2.descs.set i d }) _ ⟨by simp only; omega,⟨fun x hx=> ?_,hfin.hin,hfin.vals,hfin.ws⟩,by simp only [List.length_set]; rw [hde]; exact hd,hm,?_⟩ (by simp only; omega)
   ·rcases List.mem_or_eq_of_mem_set hx with hx | rfl
    ·exact hfin.descs _ hx
    ·exact hlen
   ·simp (disch:=omega) [go_sem,hs3,hep3,h,hi2,hi3,b62,eLk]
 ·have:j=ord.length:=by omega
  subst this
  simp (disch:=omega) [go_sem,a9k,h]
  rw [List.drop_length,a1y] at hm
  exact hex l hm.symm _ (by simp (disch:=omega) [go_sem,h])
theorem f6d (hS:SentO G bk) (hA:Around G bk) (g:Gr) (hf:∀ n∈g.nodes,n.sh) (hn:g.nodes.length < 2 ^ 36) (htot:tot (g.nodes.map (·.ins)) < 2 ^ 40):ACalls pg G c6w [d1i g] (.tup [.agg (eSn (ofR g).1),a05 bk (ofR g).2]):=by
 have h2:=hS.val 5 (by decide)
 have h0:=hS.val 0 (by decide)
 refine c0r rfl ?_
 by_cases c1:64 < g.nodes.length
 ·have c1':(64:Int) < g.nodes.length:=by omega
  simp (disch:=omega) [go_sem,a83,c1,c1']
  refine a0b ?_
  simp (disch:=omega) [go_sem,h2]
  refine a0d (by decide) fun s2 hs hep=> ?_
  simp (disch:=omega) [go_sem,hs,ofR,c1,sn0,eSn,dn,a05,a5s]
 have c1':¬ (64:Int) < g.nodes.length:=by omega
 by_cases c2:g.out < 0
 ·simp (disch:=omega) [go_sem,a83,c1,c1',c2]
  refine a0b ?_
  simp (disch:=omega) [go_sem,h0]
  refine a0d (by decide) fun s2 hs hep=> ?_
  simp (disch:=omega) [go_sem,hs,ofR,c1,c2,sn0,eSn,dn,a05,a5s]
 by_cases c3:g.nodes.length<=g.out
 ·simp (disch:=omega) [go_sem,a83,c1,c1',c2,c3]
  refine a0b ?_
  simp (disch:=omega) [go_sem,h0]
  refine a0d (by decide) fun s2 hs hep=> ?_
  simp (disch:=omega) [go_sem,hs,ofR,c1,c2,c3,sn0,eSn,dn,a05,a5s]
 simp (disch:=omega) [go_sem,a83,c1,c1',c2,c3]
 refine f1j (g:=g) (by omega) (by simp (disch:=omega) [go_sem]) (fun s h=> ?_)
 have spec:=e5q hS (g.nodes.map (·.ins)) (by simp; omega) htot
 have hz:a2z ((g.nodes.map (·.ins)).map slI)=(g.nodes.map (·.ins)).map slI:=by simp [go_sem]
 simp only [a6t,List.length_map] at spec
 generalize hv:(g.nodes.map (·.ins)).map slI=v at *
 have ht:v.take g.nodes.length=v:=List.take_of_length_le (by rw [<-hv]; simp)
 simp (disch:=omega) [go_sem,h,ht,hz]
 cases ho:a9i (g.nodes.map (·.ins)) with
 | error e=>
  rw [ho] at spec
  refine a5w spec (by simp [d2a,go_sem,a0p]) ?_ ?_<;>
  simp (disch:=omega) [go_sem,d2a,h,a0f,ofR,c1,c2,c3,ho,sn0,eSn,dn,a5s,Er.isNil]
 | ok ord=>
  rw [ho] at spec
  refine a0c spec (by simp [d2a,go_sem,a0p]) (by simp [d2a,a1l,a18,a28]) ?_
  have hx:=a5i (ins:=g.nodes.map (·.ins)) (fun r hr=>by
   obtain ⟨n,hn2,rfl⟩:=List.mem_map.1 hr
   have:=(hf n hn2).ins
   omega) ho
  have hlen:=b7x (ins:=g.nodes.map (·.ins)) (fun r hr=>by
   obtain ⟨n,hn2,rfl⟩:=List.mem_map.1 hr
   have:=(hf n hn2).ins
   omega) ho
  simp only [List.length_map] at hx hlen
  simp (disch:=omega) [go_sem,d2a,h,a0f,c5d]
  refine f1k hS hA (g:=g) hf (by omega) (ord:=ord) hx.2.2.1 (by omega) (fun n hn2=>hx.2.2.2.2 _ (List.mem_map.2 ⟨n,hn2,rfl⟩)) (l0:=lk0 ord g.nodes.length) ⟨?_,by simp [lk0,dn],by simp [lk0],by simp [lk0]⟩ (by simp [lk0]) (by simp (disch:=omega) [go_sem,h,lk0,eLk,a5s,dn]) (fun e hm s h=> ?_) (fun l hm s h=> ?_)
  ·intro d hd
   simp only [lk0,List.mem_replicate] at hd
   rw [hd.2]; simp [dn]
  ·have e1:eSn sn0=[.sl 0 [],.sl 0 [],.sl 0 [],lb false,.sl 0 []]:=rfl
   rw [e1] at h
   simp (disch:=omega) [go_sem,h,ofR,c1,c2,c3,ho,hm,e1]
  ·simp only [eLk] at h
   simp (disch:=omega) [go_sem,h,a0f,ofR,c1,c2,c3,ho,hm,eSn,Lk.sn,a05]
end
end Go.Ideal.Tryz
end
section
namespace Go.Ideal.Tryz
def a8o:IC:=(.seq (.reg [oo 40 (.bin .lss 3 0 (.t 39) (.t 38) 3)]) (.seq (.cond (.t 40) .skip (.exit 0)) (.seq (.block 1 (.seq (.reg [oo 41 (.iaddr 74 1 (.t 37) (.t 39)),
 oo 42 (.load 3 none (.t 41)),
 oo 11 (.asg (.t 42))]) (.seq (.reg [oo 43 (.faddr 49 0 (.t 1) 0),
 oo 44 (.load 47 none (.t 43)),
 om 45 11,
 oo 46 (.iaddr 47 6 (.t 44) (.t 45)),
 oo 47 (.faddr 108 0 (.t 46) 0),
 oo 48 (.load 3 none (.t 47)),
 oo 49 (.bin .neq 3 0 (.t 48) (.n 1) 3)]) (.cond (.t 49) (.reg [om 50 9,
 om 51 7,
 om 52 11,
 oo 53 (.iaddr 51 4 (.t 51) (.t 52)),
 oo 54 (.load 58 (some 4) (.t 53)),
 oo 55 (.bslice 51 58 4 1 [.lit (.int .i64 0),.lit (.int .i64 0),.lit (.int .i64 0),.lit (.int .i64 0)] [(0,(.t 54))]),
 oo 56 (.app 51 58 4 32 (.t 50) (.t 55)),
 oo 9 (.asg (.t 56))]) .skip)))) (.reg [oo 57 (.bin .add 3 0 (.t 39) (.n 1) 3),
 om 39 57]))))
def a8p:IC:=(.seq (.reg [oo 74 (.bin .lss 3 0 (.t 73) (.t 72) 3)]) (.seq (.cond (.t 74) .skip (.exit 2)) (.seq (.block 3 (.seq (.reg [oo 75 (.iaddr 74 1 (.t 71) (.t 73)),
 oo 76 (.load 3 none (.t 75)),
 oo 17 (.asg (.t 76))]) (.seq (.seq (.reg [oo 77 (.faddr 49 0 (.t 1) 0),
 oo 78 (.load 47 none (.t 77)),
 om 79 17,
 oo 80 (.iaddr 47 6 (.t 78) (.t 79)),
 oo 81 (.faddr 108 0 (.t 80) 0),
 oo 82 (.load 3 none (.t 81)),
 oo 83 (.bin .eql 3 0 (.t 82) (.n 1) 3)]) (.cond (.t 83) (.seq (.reg [om 84 7,
 om 85 17,
 oo 86 (.load 58 (some 4) (.t 8)),
 oo 87 (.iaddr 51 4 (.t 84) (.t 85)),
 ov (.store 58 4 (.t 87) (.t 86)),
 oo 15 (.asg (.c (.bool false)))]) (.exit 3)) .skip)) (.seq (.reg [om 88 7,
 om 89 17,
 om 90 12,
 om 91 14,
 oo 92 (.iaddr 74 1 (.t 90) (.t 91)),
 oo 93 (.load 3 none (.t 92)),
 oo 94 (.iaddr 51 4 (.t 88) (.t 89)),
 oo 95 (.faddr 58 2 (.t 94) 2),
 ov (.store 3 1 (.t 95) (.t 93))]) (.reg [om 96 14,
 oo 97 (.bin .add 3 0 (.t 96) (.n 1) 3),
 oo 14 (.asg (.t 97))]))))) (.reg [oo 98 (.bin .add 3 0 (.t 73) (.n 1) 3),
 om 73 98]))))
def c2t:IC:=(.seq (.reg [oo 1 (.box 49 2 (.t 0)),
 oo 2 (.asg (.nl 4)),
 oo 3 (.asg (.n 0)),
 oo 4 (.asg (.c .nilIface))]) (.seq (.reg [oo 19 (.load 49 (some 2) (.t 1)),
 oc 20 65 [(false,(.t 19))] [49],
 oo 18 (.mva (.t 20)),
 oo 21 (.ext (.t 18) 0),
 oo 22 (.ext (.t 18) 1),
 oo 5 (.alloc 111 [.own 1 0 [],.own 2 0 [],.own 1 0 [],.lit (.bool false),.own 2 0 []]),
 ov (.store 111 5 (.t 5) (.t 21)),
 oo 6 (.asg (.t 22))]) (.seq (.seq (.reg [om 23 6,
 oo 24 (.bin .neq 35 2 (.t 23) (.c .nilIface) 35)]) (.cond (.t 24) (.seq (.reg [om 25 6,
 oo 2 (.asg (.nl 4)),
 oo 3 (.asg (.n 0)),
 oo 4 (.asg (.t 25))]) .ret) .skip)) (.seq (.reg [oo 27 (.load 49 (some 2) (.t 1)),
 oo 28 (.load 111 (some 5) (.t 5)),
 oc 29 66 [(false,(.t 27)),(false,(.t 28))] [49,111],
 oo 26 (.mva (.t 29)),
 oo 30 (.ext (.t 26) 0),
 oo 31 (.ext (.t 26) 1),
 oo 8 (.alloc 58 [.lit (.int .i64 0),.lit (.int .i64 0),.lit (.int .i64 0),.lit (.int .i64 0)]),
 oo 7 (.asg (.t 30)),
 ov (.store 58 4 (.t 8) (.t 31))]) (.seq (.reg [oo 9 (.asg (.nl 4))]) (.seq (.reg [om 32 9,
 oo 33 (.load 58 (some 4) (.t 8)),
 oo 34 (.bslice 51 58 4 1 [.lit (.int .i64 0),.lit (.int .i64 0),.lit (.int .i64 0),.lit (.int .i64 0)] [(0,(.t 33))]),
 oo 35 (.app 51 58 4 32 (.t 32) (.t 34)),
 oo 9 (.asg (.t 35))]) (.seq (.seq (.reg [oo 36 (.faddr 111 0 (.t 5) 0),
 oo 37 (.load 74 none (.t 36)),
 oo 38 (.len 74 false (.t 37)),
 oo 39 (.mv (.n 0))]) (.block 0 (.loop a8o))) (.seq (.reg [om 59 9,
 oc 60 67 [(false,(.t 59))] [51],
 oo 58 (.mva (.t 60)),
 oo 61 (.ext (.t 58) 0),
 oo 62 (.ext (.t 58) 1),
 oo 12 (.asg (.t 61)),
 oo 13 (.asg (.t 62))]) (.seq (.seq (.reg [om 63 13,
 oo 64 (.bin .gtr 3 0 (.t 63) (.n 65536) 3)]) (.cond (.t 64) (.seq (.draw [oo 65 (.load 35 none (.g 1)),
 oo 2 (.asg (.nl 4)),
 oo 3 (.asg (.n 0)),
 oo 4 (.asg (.t 65))] [[],[],[1,1],[0,2,0,1,2]]) .ret) .skip)) (.seq (.reg [om 66 12,
 oo 67 (.iaddr 74 1 (.t 66) (.n 0)),
 oo 68 (.load 3 none (.t 67)),
 oo 69 (.faddr 58 2 (.t 8) 2),
 ov (.store 3 1 (.t 69) (.t 68))]) (.seq (.reg [oo 14 (.asg (.n 1)),
 oo 15 (.asg (.c (.bool true)))]) (.seq (.seq (.reg [oo 70 (.faddr 111 0 (.t 5) 0),
 oo 71 (.load 74 none (.t 70)),
 oo 72 (.len 74 false (.t 71)),
 oo 73 (.mv (.n 0))]) (.block 2 (.loop a8p))) (.seq (.seq (.reg [om 99 15]) (.cond (.t 99) (.reg [om 100 7,
 oo 101 (.load 58 (some 4) (.t 8)),
 oo 102 (.bslice 51 58 4 1 [.lit (.int .i64 0),.lit (.int .i64 0),.lit (.int .i64 0),.lit (.int .i64 0)] [(0,(.t 101))]),
 oo 103 (.app 51 58 4 32 (.t 100) (.t 102)),
 oo 7 (.asg (.t 103))]) .skip)) (.seq (.reg [om 104 7,
 om 105 13,
 oo 2 (.asg (.t 104)),
 oo 3 (.asg (.t 105)),
 oo 4 (.asg (.c .nilIface))]) .ret))))))))))))))
abbrev c1e:Nat:=24
theorem c2u:fnC pg 24 106 [(.tmp 2),(.tmp 3),(.tmp 4)] c2t:=a0s Go.Proofs.Tryz.f24 [(.tmp 2),(.tmp 3),(.tmp 4)] (by kernel_rfl)
def a38:IC:=(.seq (.reg [oo 30 (.bin .lss 3 0 (.t 29) (.t 28) 3)]) (.seq (.cond (.t 30) .skip (.exit 4)) (.seq (.block 5 (.seq (.reg [om 31 29,
 oo 32 (.iaddr 51 4 (.t 27) (.t 29)),
 oo 33 (.load 58 (some 4) (.t 32)),
 oo 10 (.alloc 58 [.lit (.int .i64 0),.lit (.int .i64 0),.lit (.int .i64 0),.lit (.int .i64 0)]),
 oo 9 (.asg (.t 31)),
 ov (.store 58 4 (.t 10) (.t 33))]) (.seq (.reg [oo 34 (.faddr 58 3 (.t 10) 3),
 oo 35 (.load 3 none (.t 34)),
 oo 36 (.bin .gtr 3 0 (.t 35) (.n 0) 3),
 om 37 36,
 og 38 (.faddr 58 0 (.t 7) 0) 3 37 true,
 og 39 (.load 3 none (.t 38)) 3 37 true,
 og 40 (.faddr 58 0 (.t 10) 0) 3 37 true,
 og 41 (.load 3 none (.t 40)) 3 37 true,
 og 42 (.mm true [3,3] [(.t 39),(.t 41)]) 3 37 true,
 og 43 (.faddr 58 1 (.t 7) 1) 3 37 true,
 og 44 (.load 3 none (.t 43)) 3 37 true,
 og 45 (.faddr 58 1 (.t 10) 1) 3 37 true,
 og 46 (.load 3 none (.t 45)) 3 37 true,
 og 47 (.mm false [3,3] [(.t 44),(.t 46)]) 3 37 true,
 og 48 (.bin .leq 3 0 (.t 42) (.t 47) 3) 3 37 true,
 oo 49 (.pick (.t 37) (.t 48) (.c (.bool false))),
 oo 11 (.asg (.t 49))]) (.seq (.draw [om 50 11,
 om 51 50,
 og 52 (.mv (.t 8)) 1 51 true,
 og 53 (.mv (.t 4)) 1 51 true,
 og 54 (.mv (.t 9)) 1 51 true,
 og 55 (.iaddr 74 1 (.t 53) (.t 54)) 1 51 true,
 og 56 (.load 3 none (.t 55)) 1 51 true,
 og 57 (.faddr 58 3 (.t 10) 3) 1 51 true,
 og 58 (.load 3 none (.t 57)) 1 51 true,
 ⟨(some 59),.call 117 [(false,(.t 56)),(false,(.t 58))] [3,3],(some (1,51,true))⟩,
 og 60 (.bin .lss 3 0 (.t 52) (.t 59) 3) 1 51 true,
 oo 61 (.pick (.t 51) (.t 60) (.c (.bool false))),
 om 62 61,
 og 63 (.mv (.t 4)) 12 62 true,
 og 64 (.mv (.t 9)) 12 62 true,
 og 65 (.iaddr 74 1 (.t 63) (.t 64)) 12 62 true,
 og 66 (.load 3 none (.t 65)) 12 62 true,
 og 67 (.mv (.t 8)) 12 62 true,
 og 68 (.faddr 58 3 (.t 7) 3) 12 62 true,
 og 69 (.load 3 none (.t 68)) 12 62 true,
 ⟨(some 70),.call 117 [(false,(.t 67)),(false,(.t 69))] [3,3],(some (12,62,true))⟩,
 og 71 (.bin .lss 3 0 (.t 66) (.t 70) 3) 12 62 true,
 oo 72 (.pick (.t 62) (.t 71) (.c (.bool false))),
 om 73 72,
 og 74 (.mv (.t 8)) 23 73 true,
 og 75 (.mv (.t 4)) 23 73 true,
 og 76 (.mv (.t 9)) 23 73 true,
 og 77 (.iaddr 74 1 (.t 75) (.t 76)) 23 73 true,
 og 78 (.load 3 none (.t 77)) 23 73 true,
 og 79 (.faddr 58 3 (.t 10) 3) 23 73 true,
 og 80 (.load 3 none (.t 79)) 23 73 true,
 ⟨(some 81),.call 117 [(false,(.t 78)),(false,(.t 80))] [3,3],(some (23,73,true))⟩,
 ⟨(some 82),.call 116 [(false,(.t 81))] [3],(some (23,73,true))⟩,
 og 83 (.bin .lss 3 0 (.t 74) (.t 82) 3) 23 73 true,
 oo 84 (.pick (.t 73) (.t 83) (.c (.bool false)))] [[],[0],[1],[1],[1],[3,4,1],[5,1],[1],[7,1],[6,8,1,1],[2,9,1],[1,10],[11,9],[12],[12],[13,14,12],[15,12],[12],[12],[18,12],[17,19,12,12],[16,20,12],[12,21],[22,20],[23],[23],[23],[25,26,23],[27,23],[23],[29,23],[28,30,23,23],[31,31,23],[24,32,23],[23,33]]) (.cond (.t 84) (.seq (.draw [om 85 4,
 om 86 9,
 oo 87 (.iaddr 74 1 (.t 85) (.t 86)),
 oo 88 (.load 3 none (.t 87)),
 oo 89 (.faddr 58 3 (.t 10) 3),
 oo 90 (.load 3 none (.t 89)),
 oc 91 117 [(false,(.t 88)),(false,(.t 90))] [3,3],
 oc 92 116 [(false,(.t 91))] [3],
 oo 8 (.asg (.t 92))] [[],[],[0,1],[2],[],[4],[3,5],[6,6],[7,7,0,1,2,3,4,5,6,7]]) (.exit 3)) .skip))))) (.reg [oo 93 (.bin .add 3 0 (.t 29) (.n 1) 3),
 om 29 93]))))
def a9d:IC:=(.block 3 (.seq (.seq (.reg [om 25 0,
 om 26 6,
 oo 27 (.slice 51 4 (.t 25) none (some (.t 26)) none),
 oo 28 (.len 51 false (.t 27)),
 oo 29 (.mv (.n 0))]) (.block 4 (.loop a38))) (.exit 2)))
def a5a:IC:=(.seq (.reg [oo 18 (.bin .lss 3 0 (.t 17) (.t 16) 3)]) (.seq (.cond (.t 18) .skip (.exit 0)) (.seq (.block 1 (.seq (.reg [om 19 17,
 oo 20 (.iaddr 51 4 (.t 15) (.t 17)),
 oo 21 (.load 58 (some 4) (.t 20)),
 oo 7 (.alloc 58 [.lit (.int .i64 0),.lit (.int .i64 0),.lit (.int .i64 0),.lit (.int .i64 0)]),
 oo 6 (.asg (.t 19)),
 ov (.store 58 4 (.t 7) (.t 21))]) (.scope (.seq (.seq (.reg [oo 22 (.faddr 58 3 (.t 7) 3),
 oo 23 (.load 3 none (.t 22)),
 oo 24 (.bin .lss 3 0 (.t 23) (.n 1) 3)]) (.cond (.t 24) (.exit 1) .skip)) (.seq (.reg [oo 8 (.asg (.n 0))]) (.seq (.label 0) (.seq (.block 2 (.loop a9d)) (.seq (.reg [om 94 4,
 om 95 6,
 om 96 8,
 oo 97 (.iaddr 74 1 (.t 94) (.t 95)),
 ov (.store 3 1 (.t 97) (.t 96))]) (.reg [om 98 5,
 om 99 8,
 oo 100 (.faddr 58 3 (.t 7) 3),
 oo 101 (.load 3 none (.t 100)),
 oc 102 117 [(false,(.t 99)),(false,(.t 101))] [3,3],
 oo 103 (.mm true [3,3] [(.t 98),(.t 102)]),
 oo 5 (.asg (.t 103))]))))))))) (.reg [oo 104 (.bin .add 3 0 (.t 17) (.n 1) 3),
 om 17 104]))))
def b5j:IC:=(.seq (.reg [oo 2 (.asg (.nl 1)),
 oo 3 (.asg (.n 0))]) (.seq (.reg [om 12 0,
 oo 13 (.len 51 false (.t 12)),
 oo 14 (.mks 74 3 1 8 [.lit (.int .i64 0)] (.t 13) (.t 13)),
 oo 4 (.asg (.t 14))]) (.seq (.reg [oo 5 (.asg (.n 0))]) (.seq (.seq (.reg [om 15 0,
 oo 16 (.len 51 false (.t 15)),
 oo 17 (.mv (.n 0))]) (.block 0 (.loop a5a))) (.seq (.reg [om 105 4,
 om 106 5,
 oo 2 (.asg (.t 105)),
 oo 3 (.asg (.t 106))]) .ret)))))
abbrev c1f:Nat:=67
theorem b7b:fnC pg 67 107 [(.tmp 2),(.tmp 3)] b5j:=a0s Go.Proofs.Tryz.f67 [(.tmp 2),(.tmp 3)] (by kernel_rfl)
def a6w:IC:=(.seq (.reg [oo 24 (.bin .lss 3 0 (.t 23) (.t 22) 3)]) (.seq (.cond (.t 24) .skip (.exit 0)) (.seq (.block 1 (.seq (.reg [om 25 23,
 oo 26 (.iaddr 74 1 (.t 21) (.t 23)),
 oo 27 (.load 3 none (.t 26)),
 oo 7 (.asg (.t 25)),
 oo 8 (.asg (.t 27))]) (.reg [om 28 6,
 om 29 8,
 om 30 7,
 oo 31 (.iaddr 74 1 (.t 28) (.t 29)),
 ov (.store 3 1 (.t 31) (.t 30))]))) (.reg [oo 32 (.bin .add 3 0 (.t 23) (.n 1) 3),
 om 23 32]))))
def a6x:IC:=(.seq (.reg [oo 65 (.bin .lss 3 0 (.t 64) (.t 63) 3)]) (.seq (.cond (.t 65) .skip (.exit 4)) (.seq (.block 5 (.seq (.reg [oo 66 (.iaddr 74 1 (.t 62) (.t 64)),
 oo 67 (.load 3 none (.t 66)),
 oo 15 (.asg (.t 67))]) (.draw [oo 68 (.faddr 58 1 (.t 13) 1),
 oo 69 (.load 3 none (.t 68)),
 om 70 6,
 om 71 15,
 oo 72 (.iaddr 74 1 (.t 70) (.t 71)),
 oo 73 (.load 3 none (.t 72)),
 oo 74 (.mm true [3,3] [(.t 69),(.t 73)]),
 oo 75 (.faddr 58 1 (.t 13) 1),
 ov (.store 3 1 (.t 75) (.t 74))] [[],[0],[],[],[2,3],[4],[1,5],[0,1,2,3,4,5,6],[7,6,0,1,2,3,4,5,6]]))) (.reg [oo 76 (.bin .add 3 0 (.t 64) (.n 1) 3),
 om 64 76]))))
def a6y:IC:=(.seq (.reg [oo 42 (.bin .lss 3 0 (.t 41) (.t 40) 3)]) (.seq (.cond (.t 42) .skip (.exit 2)) (.seq (.block 3 (.seq (.reg [om 43 41,
 oo 44 (.iaddr 164 1 (.t 39) (.t 41)),
 oo 45 (.load 74 none (.t 44)),
 oo 11 (.asg (.t 43)),
 oo 12 (.asg (.t 45))]) (.seq (.draw [om 46 6,
 om 47 11,
 oo 48 (.iaddr 74 1 (.t 46) (.t 47)),
 oo 49 (.load 3 none (.t 48)),
 om 50 6,
 om 51 11,
 oo 52 (.iaddr 74 1 (.t 50) (.t 51)),
 oo 53 (.load 3 none (.t 52)),
 oo 54 (.faddr 111 1 (.t 3) 1),
 oo 55 (.load 24 none (.t 54)),
 om 56 11,
 oo 57 (.iaddr 24 2 (.t 55) (.t 56)),
 oo 58 (.load 76 (some 2) (.t 57)),
 oc 59 106 [(false,(.t 58))] [76],
 oc 60 116 [(false,(.t 59))] [3],
 oo 61 (.build 58 [.lit (.int .i64 0),.lit (.int .i64 0),.lit (.int .i64 0),.lit (.int .i64 0)] [(0,0,1,(.t 49)),(1,1,1,(.t 53)),(3,3,1,(.t 60))]),
 oo 13 (.alloc 58 [.lit (.int .i64 0),.lit (.int .i64 0),.lit (.int .i64 0),.lit (.int .i64 0)]),
 ov (.store 58 4 (.t 13) (.t 61))] [[],[],[0,1],[2],[],[],[4,5],[6],[],[8],[],[9,10],[11],[12],[13,13],[3,7,14],[],[16,15,14,0,1,2,3,4,5,6,7,8,9,10,11,12,13,14,15,16]]) (.seq (.seq (.reg [om 62 12,
 oo 63 (.len 74 false (.t 62)),
 oo 64 (.mv (.n 0))]) (.block 4 (.loop a6x))) (.seq (.seq (.reg [om 77 11,
 oo 78 (.faddr 49 1 (.t 2) 1),
 oo 79 (.load 3 none (.t 78)),
 oo 80 (.bin .eql 3 0 (.t 77) (.t 79) 3)]) (.cond (.t 80) (.reg [oo 81 (.faddr 49 0 (.t 2) 0),
 oo 82 (.load 47 none (.t 81)),
 oo 83 (.len 47 false (.t 82)),
 oo 84 (.faddr 58 1 (.t 13) 1),
 ov (.store 3 1 (.t 84) (.t 83))]) .skip)) (.seq (.reg [om 85 9,
 om 86 11,
 oo 87 (.load 58 (some 4) (.t 13)),
 oo 88 (.iaddr 51 4 (.t 85) (.t 86)),
 ov (.store 58 4 (.t 88) (.t 87))]) (.seq (.reg [oo 89 (.faddr 49 0 (.t 2) 0),
 oo 90 (.load 47 none (.t 89)),
 om 91 11,
 oo 92 (.iaddr 47 6 (.t 90) (.t 91)),
 oo 93 (.faddr 108 0 (.t 92) 0),
 oo 94 (.load 3 none (.t 93)),
 oo 95 (.bin .eql 3 0 (.t 94) (.n 1) 3)]) (.cond (.t 95) (.draw [oo 96 (.faddr 58 1 (.t 10) 1),
 oo 97 (.load 3 none (.t 96)),
 oo 98 (.faddr 58 1 (.t 13) 1),
 oo 99 (.load 3 none (.t 98)),
 oo 100 (.mm true [3,3] [(.t 97),(.t 99)]),
 oo 101 (.faddr 58 3 (.t 13) 3),
 oo 102 (.load 3 none (.t 101)),
 oo 103 (.faddr 58 1 (.t 10) 1),
 ov (.store 3 1 (.t 103) (.t 100)),
 oo 104 (.faddr 58 3 (.t 10) 3),
 ov (.store 3 1 (.t 104) (.t 102))] [[],[0],[],[2],[1,3],[],[5],[0,1,2,3,4],[7,4,0,1,2,3,4],[0,1,2,3,4,5,6,7,8],[9,6,8,0,1,2,3,4,5,6,7,8]]) .skip)))))))) (.reg [oo 105 (.bin .add 3 0 (.t 41) (.n 1) 3),
 om 41 105]))))
def b5k:IC:=(.seq (.reg [oo 2 (.box 49 2 (.t 0)),
 oo 3 (.box 111 5 (.t 1)),
 oo 4 (.asg (.nl 4)),
 oo 5 (.alloc 58 [.lit (.int .i64 0),.lit (.int .i64 0),.lit (.int .i64 0),.lit (.int .i64 0)])]) (.seq (.reg [oo 16 (.faddr 49 0 (.t 2) 0),
 oo 17 (.load 47 none (.t 16)),
 oo 18 (.len 47 false (.t 17)),
 oo 19 (.mks 74 3 1 8 [.lit (.int .i64 0)] (.t 18) (.t 18)),
 oo 6 (.asg (.t 19))]) (.seq (.seq (.reg [oo 20 (.faddr 111 0 (.t 3) 0),
 oo 21 (.load 74 none (.t 20)),
 oo 22 (.len 74 false (.t 21)),
 oo 23 (.mv (.n 0))]) (.block 0 (.loop a6w))) (.seq (.reg [oo 33 (.faddr 49 0 (.t 2) 0),
 oo 34 (.load 47 none (.t 33)),
 oo 35 (.len 47 false (.t 34)),
 oo 36 (.mks 51 58 4 32 [.lit (.int .i64 0),.lit (.int .i64 0),.lit (.int .i64 0),.lit (.int .i64 0)] (.t 35) (.t 35)),
 oo 9 (.asg (.t 36))]) (.seq (.reg [oo 37 (.build 58 [.lit (.int .i64 0),.lit (.int .i64 0),.lit (.int .i64 0),.lit (.int .i64 0)] [(0,0,1,(.n (-1))),(1,1,1,(.n (-1))),(3,3,1,(.n 4))]),
 oo 10 (.alloc 58 [.lit (.int .i64 0),.lit (.int .i64 0),.lit (.int .i64 0),.lit (.int .i64 0)]),
 ov (.store 58 4 (.t 10) (.t 37))]) (.seq (.seq (.reg [oo 38 (.load 49 (some 2) (.t 2)),
 oc 39 115 [(false,(.t 38))] [49],
 oo 40 (.len 164 false (.t 39)),
 oo 41 (.mv (.n 0))]) (.block 2 (.loop a6y))) (.seq (.draw [om 106 9,
 oo 107 (.load 58 (some 4) (.t 10)),
 oo 4 (.asg (.t 106)),
 ov (.store 58 4 (.t 5) (.t 107))] [[],[],[0,0],[1,2,0,1,2]]) .ret)))))))
abbrev c1g:Nat:=66
theorem b7c:fnC pg 66 108 [(.tmp 4),(.cells 5 4)] b5k:=a0s Go.Proofs.Tryz.f66 [(.tmp 4),(.cell 5 58)] (by kernel_rfl)
def b7d:IC:=(.seq (.reg [oo 2 (.asg (.n 0))]) (.seq (.seq (.reg [om 3 0,
 oo 4 (.bin .gtr 3 0 (.t 3) (.n 9223372036854775803) 3)]) (.cond (.t 4) (.seq (.reg [oo 2 (.asg (.n 9223372036854775807))]) .ret) .skip)) (.seq (.reg [om 5 0,
 oo 6 (.bin .add 3 0 (.t 5) (.n 4) 3),
 oo 7 (.bin .sub 3 0 (.t 6) (.n 1) 3),
 oo 8 (.bin .quo 3 0 (.t 7) (.n 4) 3),
 oo 9 (.bin .mul 3 0 (.t 8) (.n 4) 3),
 oo 2 (.asg (.t 9))]) .ret)))
abbrev c8c:Nat:=116
theorem c2v:fnC pg 116 10 [(.tmp 2)] b7d:=a0s Go.Proofs.Tryz.f116 [(.tmp 2)] (by kernel_rfl)
def b40:IC:=(.seq (.reg [oo 4 (.asg (.n 0))]) (.seq (.seq (.reg [om 5 1,
 om 6 0,
 oo 7 (.bin .sub 3 0 (.n 9223372036854775807) (.t 6) 3),
 oo 8 (.bin .gtr 3 0 (.t 5) (.t 7) 3)]) (.cond (.t 8) (.seq (.reg [oo 4 (.asg (.n 9223372036854775807))]) .ret) .skip)) (.seq (.reg [om 9 0,
 om 10 1,
 oo 11 (.bin .add 3 0 (.t 9) (.t 10) 3),
 oo 4 (.asg (.t 11))]) .ret)))
abbrev c6u:Nat:=117
theorem c0l:fnC pg 117 12 [(.tmp 4)] b40:=a0s Go.Proofs.Tryz.f117 [(.tmp 4)] (by kernel_rfl)
def a3f:IC:=(.seq (.seq (.reg [om 10 2,
 oo 11 (.bin .lss 3 0 (.t 10) (.n 6) 3)]) (.cond (.t 11) .skip (.exit 0))) (.seq (.block 1 (.reg [oo 14 (.faddr 49 0 (.t 1) 0),
 oo 15 (.load 47 none (.t 14)),
 om 16 2,
 oo 17 (.bslice 74 3 1 1 [.lit (.int .i64 0)] [(0,(.t 16))]),
 oo 18 (.build 108 [.lit (.int .i64 0),.own 1 0 [],.own 1 0 [],.own 1 0 [],.lit (.bool false),.own 1 0 []] [(0,0,1,(.n 8)),(1,1,1,(.t 17))]),
 oo 19 (.bslice 47 108 6 1 [.lit (.int .i64 0),.own 1 0 [],.own 1 0 [],.own 1 0 [],.lit (.bool false),.own 1 0 []] [(0,(.t 18))]),
 oo 20 (.app 47 108 6 112 (.t 15) (.t 19)),
 oo 21 (.faddr 49 0 (.t 1) 0),
 ov (.store 47 1 (.t 21) (.t 20))])) (.reg [om 12 2,
 oo 13 (.bin .add 3 0 (.t 12) (.n 1) 3),
 oo 2 (.asg (.t 13))])))
def a7t:IC:=(.seq (.reg [oo 0 (.asg (.c (.bool false)))]) (.seq (.reg [oo 6 (.bslice 74 3 1 2 [.lit (.int .i64 0)] [(0,(.n 0)),(1,(.n 3))]),
 oo 7 (.build 108 [.lit (.int .i64 0),.own 1 0 [],.own 1 0 [],.own 1 0 [],.lit (.bool false),.own 1 0 []] [(0,0,1,(.n 1)),(2,2,1,(.t 6))]),
 oo 8 (.bslice 47 108 6 1 [.lit (.int .i64 0),.own 1 0 [],.own 1 0 [],.own 1 0 [],.lit (.bool false),.own 1 0 []] [(0,(.t 7))]),
 oo 9 (.build 49 [.own 6 0 [],.lit (.int .i64 0)] [(0,0,1,(.t 8))]),
 oo 1 (.alloc 49 [.own 6 0 [],.lit (.int .i64 0)]),
 ov (.store 49 2 (.t 1) (.t 9))]) (.seq (.seq (.reg [oo 2 (.asg (.n 0))]) (.block 0 (.loop a3f))) (.seq (.reg [oo 22 (.faddr 49 1 (.t 1) 1),
 ov (.store 3 1 (.t 22) (.n 6))]) (.seq (.reg [oo 24 (.load 49 (some 2) (.t 1)),
 oc 25 24 [(false,(.t 24))] [49],
 oo 23 (.mva (.t 25)),
 oo 26 (.ext (.t 23) 0),
 oo 27 (.ext (.t 23) 1),
 oo 28 (.ext (.t 23) 2),
 oo 3 (.asg (.t 26)),
 oo 4 (.asg (.t 27)),
 oo 5 (.asg (.t 28))]) (.seq (.reg [om 29 5,
 oo 30 (.bin .eql 35 2 (.t 29) (.c .nilIface) 35),
 om 31 30,
 og 32 (.mv (.t 4)) 2 31 true,
 og 33 (.bin .eql 3 0 (.t 32) (.n 8) 3) 2 31 true,
 oo 34 (.pick (.t 31) (.t 33) (.c (.bool false))),
 oo 0 (.asg (.t 34))]) .ret))))))
abbrev b24:Nat:=22
theorem b0t:fnC pg 22 35 [(.tmp 0)] a7t:=a0s Go.Proofs.Tryz.f22 [(.tmp 0)] (by kernel_rfl)
def a2r:IC:=(.seq (.seq (.reg [om 50 10,
 om 51 4,
 oo 52 (.len 51 false (.t 51)),
 oo 53 (.bin .lss 3 0 (.t 50) (.t 52) 3)]) (.cond (.t 53) .skip (.exit 0))) (.seq (.block 1 (.seq (.draw [om 56 4,
 om 57 10,
 oo 58 (.iaddr 51 4 (.t 56) (.t 57)),
 oo 59 (.faddr 58 0 (.t 58) 0),
 oo 60 (.load 3 none (.t 59)),
 om 61 7,
 om 62 10,
 oo 63 (.iaddr 54 4 (.t 61) (.t 62)),
 oo 64 (.faddr 59 0 (.t 63) 0),
 oo 65 (.load 3 none (.t 64)),
 oo 66 (.bin .neq 3 0 (.t 60) (.t 65) 3),
 om 67 66,
 og 68 (.mv (.t 4)) 11 67 false,
 og 69 (.mv (.t 10)) 11 67 false,
 og 70 (.iaddr 51 4 (.t 68) (.t 69)) 11 67 false,
 og 71 (.faddr 58 1 (.t 70) 1) 11 67 false,
 og 72 (.load 3 none (.t 71)) 11 67 false,
 og 73 (.mv (.t 7)) 11 67 false,
 og 74 (.mv (.t 10)) 11 67 false,
 og 75 (.iaddr 54 4 (.t 73) (.t 74)) 11 67 false,
 og 76 (.faddr 59 1 (.t 75) 1) 11 67 false,
 og 77 (.load 3 none (.t 76)) 11 67 false,
 og 78 (.bin .neq 3 0 (.t 72) (.t 77) 3) 11 67 false,
 oo 79 (.pick (.t 67) (.c (.bool true)) (.t 78)),
 om 80 79,
 og 81 (.mv (.t 4)) 24 80 false,
 og 82 (.mv (.t 10)) 24 80 false,
 og 83 (.iaddr 51 4 (.t 81) (.t 82)) 24 80 false,
 og 84 (.faddr 58 2 (.t 83) 2) 24 80 false,
 og 85 (.load 3 none (.t 84)) 24 80 false,
 og 86 (.mv (.t 7)) 24 80 false,
 og 87 (.mv (.t 10)) 24 80 false,
 og 88 (.iaddr 54 4 (.t 86) (.t 87)) 24 80 false,
 og 89 (.faddr 59 2 (.t 88) 2) 24 80 false,
 og 90 (.load 3 none (.t 89)) 24 80 false,
 og 91 (.bin .neq 3 0 (.t 85) (.t 90) 3) 24 80 false,
 oo 92 (.pick (.t 80) (.c (.bool true)) (.t 91)),
 om 93 92,
 og 94 (.mv (.t 4)) 37 93 false,
 og 95 (.mv (.t 10)) 37 93 false,
 og 96 (.iaddr 51 4 (.t 94) (.t 95)) 37 93 false,
 og 97 (.faddr 58 3 (.t 96) 3) 37 93 false,
 og 98 (.load 3 none (.t 97)) 37 93 false,
 og 99 (.mv (.t 7)) 37 93 false,
 og 100 (.mv (.t 10)) 37 93 false,
 og 101 (.iaddr 54 4 (.t 99) (.t 100)) 37 93 false,
 og 102 (.faddr 59 3 (.t 101) 3) 37 93 false,
 og 103 (.load 3 none (.t 102)) 37 93 false,
 og 104 (.bin .neq 3 0 (.t 98) (.t 103) 3) 37 93 false,
 oo 105 (.pick (.t 93) (.c (.bool true)) (.t 104))] [[],[],[0,1],[2],[3],[],[],[5,6],[7],[8],[4,9],[10],[11],[11],[12,13,11],[14,11],[15,11],[11],[11],[17,18,11],[19,11],[20,11],[16,21,11],[11,22],[23,11],[24],[24],[25,26,24],[27,24],[28,24],[24],[24],[30,31,24],[32,24],[33,24],[29,34,24],[24,35],[36,24],[37],[37],[38,39,37],[40,37],[41,37],[37],[37],[43,44,37],[45,37],[46,37],[42,47,37],[37,48]]) (.cond (.t 105) (.seq (.reg [oo 2 (.asg (.c (.bool false)))]) .ret) .skip))) (.reg [om 54 10,
 oo 55 (.bin .add 3 0 (.t 54) (.n 1) 3),
 oo 10 (.asg (.t 55))])))
def a6a:IC:=(.seq (.reg [oo 1 (.box 49 2 (.t 0)),
 oo 2 (.asg (.c (.bool false)))]) (.seq (.reg [oc 11 22 [] [],
 oo 3 (.asg (.t 11))]) (.seq (.seq (.reg [om 12 3,
 oo 13 (.un .not 4 (.t 12))]) (.cond (.t 13) (.seq (.reg [oo 2 (.asg (.c (.bool false)))]) .ret) .skip)) (.seq (.seq (.reg [oo 14 (.load 49 (some 2) (.t 1)),
 oc 15 23 [(false,(.t 14))] [49],
 oo 16 (.un .not 4 (.t 15)),
 om 17 16,
 og 18 (.mv (.t 3)) 3 17 false,
 og 19 (.un .not 4 (.t 18)) 3 17 false,
 oo 20 (.pick (.t 17) (.c (.bool true)) (.t 19))]) (.cond (.t 20) (.seq (.reg [om 21 3,
 oo 2 (.asg (.t 21))]) .ret) .skip)) (.seq (.reg [oo 23 (.load 49 (some 2) (.t 1)),
 oc 24 24 [(false,(.t 23))] [49],
 oo 22 (.mva (.t 24)),
 oo 25 (.ext (.t 22) 0),
 oo 26 (.ext (.t 22) 1),
 oo 27 (.ext (.t 22) 2),
 oo 4 (.asg (.t 25)),
 oo 5 (.asg (.t 26)),
 oo 6 (.asg (.t 27))]) (.seq (.reg [oo 29 (.load 49 (some 2) (.t 1)),
 oc 30 25 [(false,(.t 29))] [49],
 oo 28 (.mva (.t 30)),
 oo 31 (.ext (.t 28) 0),
 oo 32 (.ext (.t 28) 1),
 oo 33 (.ext (.t 28) 2),
 oo 9 (.alloc 31 [.lit (.int .i64 0),.lit (.bool false),.lit (.int .i64 0)]),
 oo 7 (.asg (.t 31)),
 oo 8 (.asg (.t 32)),
 ov (.store 31 3 (.t 9) (.t 33))]) (.seq (.seq (.reg [om 34 6,
 oo 35 (.load 31 (some 3) (.t 9)),
 oc 36 18 [(false,(.t 34)),(false,(.t 35))] [35,31],
 oo 37 (.un .not 4 (.t 36)),
 om 38 37,
 og 39 (.mv (.t 5)) 4 38 false,
 og 40 (.mv (.t 8)) 4 38 false,
 og 41 (.bin .neq 3 0 (.t 39) (.t 40) 3) 4 38 false,
 oo 42 (.pick (.t 38) (.c (.bool true)) (.t 41)),
 om 43 42,
 og 44 (.mv (.t 4)) 9 43 false,
 og 45 (.len 51 false (.t 44)) 9 43 false,
 og 46 (.mv (.t 7)) 9 43 false,
 og 47 (.len 54 false (.t 46)) 9 43 false,
 og 48 (.bin .neq 3 0 (.t 45) (.t 47) 3) 9 43 false,
 oo 49 (.pick (.t 43) (.c (.bool true)) (.t 48))]) (.cond (.t 49) (.seq (.reg [oo 2 (.asg (.c (.bool false)))]) .ret) .skip)) (.seq (.seq (.reg [oo 10 (.asg (.n 0))]) (.block 0 (.loop a2r))) (.seq (.reg [oo 2 (.asg (.c (.bool true)))]) .ret)))))))))
abbrev b0b:Nat:=5
theorem a8q:fnC pg 5 106 [(.tmp 2)] a6a:=a0s Go.Proofs.Tryz.f5 [(.tmp 2)] (by kernel_rfl)
def a3s:IC:=(.seq (.seq (.reg [om 59 13,
 oo 60 (.faddr 118 0 (.t 5) 0),
 oo 61 (.load 74 none (.t 60)),
 oo 62 (.len 74 false (.t 61)),
 oo 63 (.bin .lss 3 0 (.t 59) (.t 62) 3)]) (.cond (.t 63) .skip (.exit 2))) (.seq (.block 3 (.seq (.draw [oo 66 (.faddr 49 0 (.t 1) 0),
 oo 67 (.load 47 none (.t 66)),
 oo 68 (.faddr 118 0 (.t 5) 0),
 oo 69 (.load 74 none (.t 68)),
 om 70 13,
 oo 71 (.iaddr 74 1 (.t 69) (.t 70)),
 oo 72 (.load 3 none (.t 71)),
 oo 73 (.iaddr 47 6 (.t 67) (.t 72)),
 oo 74 (.faddr 108 1 (.t 73) 1),
 oo 75 (.load 74 none (.t 74)),
 om 76 11,
 oc 77 69 [(false,(.t 75)),(false,(.t 76))] [74,3]] [[],[0],[],[2],[],[3,4],[5],[1,6],[7],[8],[],[9,10]]) (.cond (.t 77) (.reg [oo 78 (.faddr 59 1 (.t 12) 1),
 oo 79 (.load 3 none (.t 78)),
 om 80 13,
 oo 81 (.mm true [3,3] [(.t 79),(.t 80)]),
 oo 82 (.faddr 59 1 (.t 12) 1),
 ov (.store 3 1 (.t 82) (.t 81))]) .skip))) (.reg [om 64 13,
 oo 65 (.bin .add 3 0 (.t 64) (.n 1) 3),
 oo 13 (.asg (.t 65))])))
def a3t:IC:=(.seq (.seq (.reg [om 35 10,
 oo 36 (.faddr 118 0 (.t 5) 0),
 oo 37 (.load 74 none (.t 36)),
 oo 38 (.len 74 false (.t 37)),
 oo 39 (.bin .lss 3 0 (.t 35) (.t 38) 3)]) (.cond (.t 39) .skip (.exit 0))) (.seq (.block 1 (.seq (.reg [oo 42 (.faddr 118 0 (.t 5) 0),
 oo 43 (.load 74 none (.t 42)),
 om 44 10,
 oo 45 (.iaddr 74 1 (.t 43) (.t 44)),
 oo 46 (.load 3 none (.t 45)),
 oo 11 (.asg (.t 46))]) (.seq (.reg [om 47 10,
 om 48 10,
 oo 49 (.faddr 118 1 (.t 5) 1),
 oo 50 (.load 24 none (.t 49)),
 om 51 11,
 oo 52 (.iaddr 24 2 (.t 50) (.t 51)),
 oo 53 (.load 76 (some 2) (.t 52)),
 oc 54 40 [(false,(.t 53))] [76],
 oo 55 (.bin .add 3 0 (.t 54) (.n 3) 3),
 oo 56 (.bin .quo 3 0 (.t 55) (.n 4) 3),
 oo 57 (.bin .mul 3 0 (.t 56) (.n 4) 3),
 oo 58 (.build 59 [.lit (.int .i64 0),.lit (.int .i64 0),.lit (.int .i64 0),.lit (.int .i64 0)] [(0,0,1,(.t 47)),(1,1,1,(.t 48)),(3,3,1,(.t 57))]),
 oo 12 (.alloc 59 [.lit (.int .i64 0),.lit (.int .i64 0),.lit (.int .i64 0),.lit (.int .i64 0)]),
 ov (.store 59 4 (.t 12) (.t 58))]) (.seq (.seq (.reg [oo 13 (.asg (.n 0))]) (.block 2 (.loop a3s))) (.seq (.seq (.reg [om 83 11,
 oo 84 (.faddr 49 1 (.t 1) 1),
 oo 85 (.load 3 none (.t 84)),
 oo 86 (.bin .eql 3 0 (.t 83) (.t 85) 3)]) (.cond (.t 86) (.reg [oo 87 (.faddr 49 0 (.t 1) 0),
 oo 88 (.load 47 none (.t 87)),
 oo 89 (.len 47 false (.t 88)),
 oo 90 (.faddr 59 1 (.t 12) 1),
 ov (.store 3 1 (.t 90) (.t 89))]) .skip)) (.seq (.reg [om 91 7,
 om 92 11,
 oo 93 (.load 59 (some 4) (.t 12)),
 oo 94 (.iaddr 54 4 (.t 91) (.t 92)),
 ov (.store 59 4 (.t 94) (.t 93))]) (.seq (.reg [oo 95 (.faddr 49 0 (.t 1) 0),
 oo 96 (.load 47 none (.t 95)),
 om 97 11,
 oo 98 (.iaddr 47 6 (.t 96) (.t 97)),
 oo 99 (.faddr 108 0 (.t 98) 0),
 oo 100 (.load 3 none (.t 99)),
 oo 101 (.bin .eql 3 0 (.t 100) (.n 1) 3)]) (.cond (.t 101) (.seq (.reg [oo 9 (.asg (.c (.bool true)))]) (.seq (.reg [oo 102 (.faddr 59 1 (.t 8) 1),
 oo 103 (.load 3 none (.t 102)),
 oo 104 (.faddr 59 1 (.t 12) 1),
 oo 105 (.load 3 none (.t 104)),
 oo 106 (.mm true [3,3] [(.t 103),(.t 105)]),
 oo 107 (.faddr 59 1 (.t 8) 1),
 ov (.store 3 1 (.t 107) (.t 106))]) (.reg [oo 108 (.faddr 59 3 (.t 12) 3),
 oo 109 (.load 3 none (.t 108)),
 oo 110 (.faddr 59 3 (.t 8) 3),
 ov (.store 3 1 (.t 110) (.t 109))]))) .skip)))))))) (.reg [om 40 10,
 oo 41 (.bin .add 3 0 (.t 40) (.n 1) 3),
 oo 10 (.asg (.t 41))])))
def a2u:IC:=(.seq (.seq (.reg [om 113 15,
 oo 114 (.faddr 118 0 (.t 5) 0),
 oo 115 (.load 74 none (.t 114)),
 oo 116 (.len 74 false (.t 115)),
 oo 117 (.bin .lss 3 0 (.t 113) (.t 116) 3)]) (.cond (.t 117) .skip (.exit 4))) (.seq (.block 5 (.seq (.draw [oo 120 (.faddr 49 0 (.t 1) 0),
 oo 121 (.load 47 none (.t 120)),
 oo 122 (.faddr 118 0 (.t 5) 0),
 oo 123 (.load 74 none (.t 122)),
 om 124 15,
 oo 125 (.iaddr 74 1 (.t 123) (.t 124)),
 oo 126 (.load 3 none (.t 125)),
 oo 127 (.iaddr 47 6 (.t 121) (.t 126)),
 oo 128 (.faddr 108 0 (.t 127) 0),
 oo 129 (.load 3 none (.t 128)),
 oo 130 (.bin .neq 3 0 (.t 129) (.n 1) 3)] [[],[0],[],[2],[],[3,4],[5],[1,6],[7],[8],[9]]) (.cond (.t 130) (.reg [om 131 14,
 om 132 7,
 oo 133 (.faddr 118 0 (.t 5) 0),
 oo 134 (.load 74 none (.t 133)),
 om 135 15,
 oo 136 (.iaddr 74 1 (.t 134) (.t 135)),
 oo 137 (.load 3 none (.t 136)),
 oo 138 (.iaddr 54 4 (.t 132) (.t 137)),
 oo 139 (.load 59 (some 4) (.t 138)),
 oo 140 (.bslice 54 59 4 1 [.lit (.int .i64 0),.lit (.int .i64 0),.lit (.int .i64 0),.lit (.int .i64 0)] [(0,(.t 139))]),
 oo 141 (.app 54 59 4 32 (.t 131) (.t 140)),
 oo 14 (.asg (.t 141))]) .skip))) (.reg [om 118 15,
 oo 119 (.bin .add 3 0 (.t 118) (.n 1) 3),
 oo 15 (.asg (.t 119))])))
def a2v:IC:=(.seq (.seq (.reg [om 154 19,
 oo 155 (.faddr 118 0 (.t 5) 0),
 oo 156 (.load 74 none (.t 155)),
 oo 157 (.len 74 false (.t 156)),
 oo 158 (.bin .lss 3 0 (.t 154) (.t 157) 3)]) (.cond (.t 158) .skip (.exit 6))) (.seq (.block 7 (.seq (.reg [oo 161 (.faddr 118 0 (.t 5) 0),
 oo 162 (.load 74 none (.t 161)),
 om 163 19,
 oo 164 (.iaddr 74 1 (.t 162) (.t 163)),
 oo 165 (.load 3 none (.t 164)),
 oo 20 (.asg (.t 165))]) (.seq (.seq (.reg [oo 166 (.faddr 49 0 (.t 1) 0),
 oo 167 (.load 47 none (.t 166)),
 om 168 20,
 oo 169 (.iaddr 47 6 (.t 167) (.t 168)),
 oo 170 (.faddr 108 0 (.t 169) 0),
 oo 171 (.load 3 none (.t 170)),
 oo 172 (.bin .eql 3 0 (.t 171) (.n 1) 3)]) (.cond (.t 172) (.seq (.reg [om 173 7,
 om 174 20,
 oo 175 (.load 59 (some 4) (.t 8)),
 oo 176 (.iaddr 54 4 (.t 173) (.t 174)),
 ov (.store 59 4 (.t 176) (.t 175))]) (.exit 7)) .skip)) (.seq (.reg [om 177 7,
 om 178 20,
 om 179 16,
 om 180 18,
 oo 181 (.iaddr 74 1 (.t 179) (.t 180)),
 oo 182 (.load 3 none (.t 181)),
 oo 183 (.iaddr 54 4 (.t 177) (.t 178)),
 oo 184 (.faddr 59 2 (.t 183) 2),
 ov (.store 3 1 (.t 184) (.t 182))]) (.reg [om 185 18,
 oo 186 (.bin .add 3 0 (.t 185) (.n 1) 3),
 oo 18 (.asg (.t 186))]))))) (.reg [om 159 19,
 oo 160 (.bin .add 3 0 (.t 159) (.n 1) 3),
 oo 19 (.asg (.t 160))])))
def a8r:IC:=(.seq (.reg [oo 1 (.box 49 2 (.t 0)),
 oo 2 (.asg (.nl 4)),
 oo 3 (.asg (.n 0)),
 oo 4 (.alloc 31 [.lit (.int .i64 0),.lit (.bool false),.lit (.int .i64 0)])]) (.seq (.reg [oo 22 (.load 49 (some 2) (.t 1)),
 oc 23 68 [(false,(.t 22))] [49],
 oo 21 (.mva (.t 23)),
 oo 24 (.ext (.t 21) 0),
 oo 25 (.ext (.t 21) 1),
 oo 5 (.alloc 118 [.own 1 0 [],.own 2 0 [],.own 1 0 [],.lit (.bool false),.own 2 0 []]),
 oo 6 (.alloc 31 [.lit (.int .i64 0),.lit (.bool false),.lit (.int .i64 0)]),
 ov (.store 118 5 (.t 5) (.t 24)),
 ov (.store 31 3 (.t 6) (.t 25))]) (.seq (.seq (.reg [oo 26 (.faddr 31 0 (.t 6) 0),
 oo 27 (.load 3 none (.t 26)),
 oo 28 (.bin .neq 3 0 (.t 27) (.n 0) 3)]) (.cond (.t 28) (.seq (.draw [oo 29 (.load 31 (some 3) (.t 6)),
 oo 2 (.asg (.nl 4)),
 oo 3 (.asg (.n 0)),
 ov (.store 31 3 (.t 4) (.t 29))] [[],[],[1,1],[0,2,0,1,2]]) .ret) .skip)) (.seq (.reg [oo 30 (.faddr 49 0 (.t 1) 0),
 oo 31 (.load 47 none (.t 30)),
 oo 32 (.len 47 false (.t 31)),
 oo 33 (.mks 54 59 4 32 [.lit (.int .i64 0),.lit (.int .i64 0),.lit (.int .i64 0),.lit (.int .i64 0)] (.t 32) (.t 32)),
 oo 7 (.asg (.t 33))]) (.seq (.reg [oo 34 (.build 59 [.lit (.int .i64 0),.lit (.int .i64 0),.lit (.int .i64 0),.lit (.int .i64 0)] [(0,0,1,(.n (-1))),(1,1,1,(.n (-1))),(3,3,1,(.n 4))]),
 oo 8 (.alloc 59 [.lit (.int .i64 0),.lit (.int .i64 0),.lit (.int .i64 0),.lit (.int .i64 0)]),
 ov (.store 59 4 (.t 8) (.t 34))]) (.seq (.reg [oo 9 (.asg (.c (.bool false)))]) (.seq (.seq (.reg [oo 10 (.asg (.n 0))]) (.block 0 (.loop a3t))) (.seq (.reg [oo 111 (.load 59 (some 4) (.t 8)),
 oo 112 (.bslice 54 59 4 1 [.lit (.int .i64 0),.lit (.int .i64 0),.lit (.int .i64 0),.lit (.int .i64 0)] [(0,(.t 111))]),
 oo 14 (.asg (.t 112))]) (.seq (.seq (.reg [oo 15 (.asg (.n 0))]) (.block 4 (.loop a2u))) (.seq (.reg [om 143 14,
 oc 144 70 [(false,(.t 143))] [54],
 oo 142 (.mva (.t 144)),
 oo 145 (.ext (.t 142) 0),
 oo 146 (.ext (.t 142) 1),
 oo 16 (.asg (.t 145)),
 oo 17 (.asg (.t 146))]) (.seq (.seq (.reg [om 147 17,
 oo 148 (.bin .gtr 3 0 (.t 147) (.n 65536) 3)]) (.cond (.t 148) (.seq (.reg [oc 149 38 [(false,(.n 106))] [3],
 oo 2 (.asg (.nl 4)),
 oo 3 (.asg (.n 0)),
 ov (.store 31 3 (.t 4) (.t 149))]) .ret) .skip)) (.seq (.reg [om 150 16,
 oo 151 (.iaddr 74 1 (.t 150) (.n 0)),
 oo 152 (.load 3 none (.t 151)),
 oo 153 (.faddr 59 2 (.t 8) 2),
 ov (.store 3 1 (.t 153) (.t 152))]) (.seq (.reg [oo 18 (.asg (.n 1))]) (.seq (.seq (.reg [oo 19 (.asg (.n 0))]) (.block 6 (.loop a2v))) (.seq (.seq (.reg [om 187 9,
 oo 188 (.un .not 4 (.t 187))]) (.cond (.t 188) (.reg [om 189 7,
 oo 190 (.load 59 (some 4) (.t 8)),
 oo 191 (.bslice 54 59 4 1 [.lit (.int .i64 0),.lit (.int .i64 0),.lit (.int .i64 0),.lit (.int .i64 0)] [(0,(.t 190))]),
 oo 192 (.app 54 59 4 32 (.t 189) (.t 191)),
 oo 7 (.asg (.t 192))]) .skip)) (.seq (.reg [om 193 7,
 om 194 17,
 oc 195 43 [] [],
 oo 2 (.asg (.t 193)),
 oo 3 (.asg (.t 194)),
 ov (.store 31 3 (.t 4) (.t 195))]) .ret))))))))))))))))
abbrev b4k:Nat:=25
theorem b1p:fnC pg 25 196 [(.tmp 2),(.tmp 3),(.cells 4 3)] a8r:=a0s Go.Proofs.Tryz.f25 [(.tmp 2),(.tmp 3),(.cell 4 31)] (by kernel_rfl)
@[go_sem] def lodgeref17_Place_r12:List AO:=[om 28 0,
 om 29 9,
 oo 30 (.iaddr 54 4 (.t 28) (.t 29)),
 oo 31 (.faddr 59 3 (.t 30) 3),
 oo 32 (.load 3 none (.t 31)),
 oo 33 (.bin .geq 3 0 (.t 32) (.n 1) 3),
 om 34 33,
 og 35 (.mv (.t 0)) 6 34 true,
 og 36 (.mv (.t 9)) 6 34 true,
 og 37 (.iaddr 54 4 (.t 35) (.t 36)) 6 34 true,
 og 38 (.faddr 59 0 (.t 37) 0) 6 34 true,
 og 39 (.load 3 none (.t 38)) 6 34 true,
 og 40 (.mv (.t 0)) 6 34 true,
 og 41 (.mv (.t 9)) 6 34 true,
 og 42 (.iaddr 54 4 (.t 40) (.t 41)) 6 34 true,
 og 43 (.faddr 59 1 (.t 42) 1) 6 34 true,
 og 44 (.load 3 none (.t 43)) 6 34 true,
 og 45 (.bin .leq 3 0 (.t 39) (.t 44) 3) 6 34 true,
 oo 46 (.pick (.t 34) (.t 45) (.c (.bool false))),
 om 47 46,
 og 48 (.mv (.t 0)) 19 47 true,
 og 49 (.mv (.t 6)) 19 47 true,
 og 50 (.iaddr 54 4 (.t 48) (.t 49)) 19 47 true,
 og 51 (.faddr 59 0 (.t 50) 0) 19 47 true,
 og 52 (.load 3 none (.t 51)) 19 47 true,
 og 53 (.mv (.t 0)) 19 47 true,
 og 54 (.mv (.t 6)) 19 47 true,
 og 55 (.iaddr 54 4 (.t 53) (.t 54)) 19 47 true,
 og 56 (.faddr 59 1 (.t 55) 1) 19 47 true,
 og 57 (.load 3 none (.t 56)) 19 47 true,
 og 58 (.bin .leq 3 0 (.t 52) (.t 57) 3) 19 47 true,
 oo 59 (.pick (.t 47) (.t 58) (.c (.bool false))),
 om 60 59,
 og 61 (.mv (.t 0)) 32 60 true,
 og 62 (.mv (.t 9)) 32 60 true,
 og 63 (.iaddr 54 4 (.t 61) (.t 62)) 32 60 true,
 og 64 (.faddr 59 0 (.t 63) 0) 32 60 true,
 og 65 (.load 3 none (.t 64)) 32 60 true,
 og 66 (.mv (.t 0)) 32 60 true,
 og 67 (.mv (.t 6)) 32 60 true,
 og 68 (.iaddr 54 4 (.t 66) (.t 67)) 32 60 true,
 og 69 (.faddr 59 1 (.t 68) 1) 32 60 true,
 og 70 (.load 3 none (.t 69)) 32 60 true,
 og 71 (.bin .leq 3 0 (.t 65) (.t 70) 3) 32 60 true,
 oo 72 (.pick (.t 60) (.t 71) (.c (.bool false))),
 om 73 72,
 og 74 (.mv (.t 0)) 45 73 true,
 og 75 (.mv (.t 6)) 45 73 true,
 og 76 (.iaddr 54 4 (.t 74) (.t 75)) 45 73 true,
 og 77 (.faddr 59 0 (.t 76) 0) 45 73 true,
 og 78 (.load 3 none (.t 77)) 45 73 true,
 og 79 (.mv (.t 0)) 45 73 true,
 og 80 (.mv (.t 9)) 45 73 true,
 og 81 (.iaddr 54 4 (.t 79) (.t 80)) 45 73 true,
 og 82 (.faddr 59 1 (.t 81) 1) 45 73 true,
 og 83 (.load 3 none (.t 82)) 45 73 true,
 og 84 (.bin .leq 3 0 (.t 78) (.t 83) 3) 45 73 true,
 oo 85 (.pick (.t 73) (.t 84) (.c (.bool false))),
 oo 10 (.asg (.t 85))]
def a3g:IC:=(.seq (.seq (.reg [om 23 9,
 om 24 6,
 oo 25 (.bin .lss 3 0 (.t 23) (.t 24) 3)]) (.cond (.t 25) .skip (.exit 4))) (.seq (.block 5 (.seq (.draw lodgeref17_Place_r12 [[],[],[0,1],[2],[3],[4],[5],[6],[6],[7,8,6],[9,6],[10,6],[6],[6],[12,13,6],[14,6],[15,6],[11,16,6],[6,17],[18,6],[19],[19],[20,21,19],[22,19],[23,19],[19],[19],[25,26,19],[27,19],[28,19],[24,29,19],[19,30],[31,19],[32],[32],[33,34,32],[35,32],[36,32],[32],[32],[38,39,32],[40,32],[41,32],[37,42,32],[32,43],[44,32],[45],[45],[46,47,45],[48,45],[49,45],[45],[45],[51,52,45],[53,45],[54,45],[50,55,45],[45,56],[57,45,0,1,2,3,4,5,6,7,8,9,10,11,12,13,14,15,16,17,18,19,20,21,22,23,24,25,26,27,28,29,30,31,32,33,34,35,36,37,38,39,40,41,42,43,44,45,46,47,48,49,50,51,52,53,54,55,56,57]]) (.seq (.draw [om 86 10,
 om 87 86,
 og 88 (.mv (.t 4)) 1 87 true,
 og 89 (.mv (.t 9)) 1 87 true,
 og 90 (.iaddr 74 1 (.t 88) (.t 89)) 1 87 true,
 og 91 (.load 3 none (.t 90)) 1 87 true,
 og 92 (.mv (.t 7)) 1 87 true,
 og 93 (.mv (.t 0)) 1 87 true,
 og 94 (.mv (.t 6)) 1 87 true,
 og 95 (.iaddr 54 4 (.t 93) (.t 94)) 1 87 true,
 og 96 (.faddr 59 3 (.t 95) 3) 1 87 true,
 og 97 (.load 3 none (.t 96)) 1 87 true,
 og 98 (.bin .add 3 0 (.t 92) (.t 97) 3) 1 87 true,
 og 99 (.bin .lss 3 0 (.t 91) (.t 98) 3) 1 87 true,
 oo 100 (.pick (.t 87) (.t 99) (.c (.bool false))),
 om 101 100,
 og 102 (.mv (.t 7)) 15 101 true,
 og 103 (.mv (.t 4)) 15 101 true,
 og 104 (.mv (.t 9)) 15 101 true,
 og 105 (.iaddr 74 1 (.t 103) (.t 104)) 15 101 true,
 og 106 (.load 3 none (.t 105)) 15 101 true,
 og 107 (.mv (.t 0)) 15 101 true,
 og 108 (.mv (.t 9)) 15 101 true,
 og 109 (.iaddr 54 4 (.t 107) (.t 108)) 15 101 true,
 og 110 (.faddr 59 3 (.t 109) 3) 15 101 true,
 og 111 (.load 3 none (.t 110)) 15 101 true,
 og 112 (.bin .add 3 0 (.t 106) (.t 111) 3) 15 101 true,
 og 113 (.bin .lss 3 0 (.t 102) (.t 112) 3) 15 101 true,
 oo 114 (.pick (.t 101) (.t 113) (.c (.bool false)))] [[],[0],[1],[1],[2,3,1],[4,1],[1],[1],[1],[7,8,1],[9,1],[10,1],[6,11,1],[5,12,1],[1,13],[14,1],[15],[15],[15],[17,18,15],[19,15],[15],[15],[21,22,15],[23,15],[24,15],[20,25,15],[16,26,15],[15,27]]) (.cond (.t 114) (.reg [om 115 9,
 oo 8 (.asg (.t 115))]) .skip)))) (.reg [om 26 9,
 oo 27 (.bin .add 3 0 (.t 26) (.n 1) 3),
 oo 9 (.asg (.t 27))])))
def a3h:IC:=(.seq (.seq (.reg [om 17 0,
 om 18 6,
 oo 19 (.iaddr 54 4 (.t 17) (.t 18)),
 oo 20 (.faddr 59 3 (.t 19) 3),
 oo 21 (.load 3 none (.t 20)),
 oo 22 (.bin .geq 3 0 (.t 21) (.n 1) 3)]) (.cond (.t 22) .skip (.exit 2))) (.block 3 (.seq (.reg [oo 8 (.asg (.n (-1)))]) (.seq (.seq (.reg [oo 9 (.asg (.n 0))]) (.block 4 (.loop a3g))) (.seq (.seq (.reg [om 116 8,
 oo 117 (.bin .lss 3 0 (.t 116) (.n 0) 3)]) (.cond (.t 117) (.exit 2) .skip)) (.reg [om 118 7,
 oo 119 (.bin .add 3 0 (.t 118) (.n 4) 3),
 oo 7 (.asg (.t 119))]))))))
def a3i:IC:=(.seq (.seq (.reg [om 11 6,
 om 12 0,
 oo 13 (.len 54 false (.t 12)),
 oo 14 (.bin .lss 3 0 (.t 11) (.t 13) 3)]) (.cond (.t 14) .skip (.exit 0))) (.seq (.block 1 (.seq (.reg [oo 7 (.asg (.n 0))]) (.seq (.block 2 (.loop a3h)) (.seq (.reg [om 120 4,
 om 121 7,
 oo 122 (.bslice 74 3 1 1 [.lit (.int .i64 0)] [(0,(.t 121))]),
 oo 123 (.app 74 3 1 8 (.t 120) (.t 122)),
 oo 4 (.asg (.t 123))]) (.reg [om 124 5,
 om 125 7,
 om 126 0,
 om 127 6,
 oo 128 (.iaddr 54 4 (.t 126) (.t 127)),
 oo 129 (.faddr 59 3 (.t 128) 3),
 oo 130 (.load 3 none (.t 129)),
 oo 131 (.mm true [3,3] [(.t 130),(.n 0)]),
 oo 132 (.bin .add 3 0 (.t 125) (.t 131) 3),
 oo 133 (.mm true [3,3] [(.t 124),(.t 132)]),
 oo 5 (.asg (.t 133))]))))) (.reg [om 15 6,
 oo 16 (.bin .add 3 0 (.t 15) (.n 1) 3),
 oo 6 (.asg (.t 16))])))
def a7u:IC:=(.seq (.reg [oo 2 (.asg (.nl 1)),
 oo 3 (.asg (.n 0))]) (.seq (.reg [oo 4 (.asg (.nl 1))]) (.seq (.reg [oo 5 (.asg (.n 0))]) (.seq (.seq (.reg [oo 6 (.asg (.n 0))]) (.block 0 (.loop a3i))) (.seq (.reg [om 134 4,
 om 135 5,
 oo 2 (.asg (.t 134)),
 oo 3 (.asg (.t 135))]) .ret)))))
abbrev b25:Nat:=70
theorem b0u:fnC pg 70 136 [(.tmp 2),(.tmp 3)] a7u:=a0s Go.Proofs.Tryz.f70 [(.tmp 2),(.tmp 3)] (by kernel_rfl)
def a4r:IC:=(.seq (.seq (.reg [oo 153 (.faddr 118 4 (.t 6) 3),
 oo 154 (.load 24 none (.t 153)),
 oo 155 (.len 24 false (.t 154)),
 om 156 14,
 oo 157 (.bin .leq 3 0 (.t 155) (.t 156) 3)]) (.cond (.t 157) .skip (.exit 4))) (.block 5 (.seq (.reg [oo 158 (.faddr 118 4 (.t 6) 3),
 oo 159 (.load 24 none (.t 158)),
 oo 160 (.build 76 [.sl 0 [],.lit (.bool false)] []),
 oo 161 (.bslice 24 76 2 1 [.own 1 0 [],.lit (.bool false)] [(0,(.t 160))]),
 oo 162 (.app 24 76 2 32 (.t 159) (.t 161)),
 oo 163 (.faddr 118 4 (.t 6) 3),
 ov (.store 24 1 (.t 163) (.t 162))]) (.reg [om 164 8,
 oo 165 (.bslice 177 4 1 1 [.lit (.bool false)] [(0,(.c (.bool false)))]),
 oo 166 (.app 177 4 1 1 (.t 164) (.t 165)),
 oo 8 (.asg (.t 166))]))))
def a4s:IC:=(.seq (.seq (.reg [om 193 16,
 oo 194 (.faddr 108 1 (.t 11) 1),
 oo 195 (.load 74 none (.t 194)),
 oo 196 (.len 74 false (.t 195)),
 oo 197 (.bin .lss 3 0 (.t 193) (.t 196) 3)]) (.cond (.t 197) .skip (.exit 6))) (.seq (.block 7 (.draw [om 200 15,
 oo 201 (.faddr 118 1 (.t 6) 1),
 oo 202 (.load 24 none (.t 201)),
 oo 203 (.faddr 108 1 (.t 11) 1),
 oo 204 (.load 74 none (.t 203)),
 om 205 16,
 oo 206 (.iaddr 74 1 (.t 204) (.t 205)),
 oo 207 (.load 3 none (.t 206)),
 oo 208 (.iaddr 24 2 (.t 202) (.t 207)),
 oo 209 (.load 76 (some 2) (.t 208)),
 oo 210 (.bslice 24 76 2 1 [.own 1 0 [],.lit (.bool false)] [(0,(.t 209))]),
 oo 211 (.app 24 76 2 32 (.t 200) (.t 210)),
 oo 15 (.asg (.t 211))] [[],[],[1],[],[3],[],[4,5],[6],[2,7],[8],[9],[0,10],[11,11,0,1,2,3,4,5,6,7,8,9,10,11]])) (.reg [om 198 16,
 oo 199 (.bin .add 3 0 (.t 198) (.n 1) 3),
 oo 16 (.asg (.t 199))])))
def b9m:IC:=(.block 2 (.seq (.reg [oo 70 (.faddr 108 0 (.t 11) 0),
 oo 71 (.load 3 none (.t 70)),
 oo 72 (.bin .eql 3 0 (.t 71) (.n 1) 3),
 om 73 72,
 og 74 (.faddr 108 0 (.t 11) 0) 3 73 false,
 og 75 (.load 3 none (.t 74)) 3 73 false,
 og 76 (.bin .eql 3 0 (.t 75) (.n 3) 3) 3 73 false,
 oo 77 (.pick (.t 73) (.c (.bool true)) (.t 76)),
 om 78 77,
 og 79 (.faddr 108 0 (.t 11) 0) 8 78 false,
 og 80 (.load 3 none (.t 79)) 8 78 false,
 og 81 (.bin .eql 3 0 (.t 80) (.n 2) 3) 8 78 false,
 oo 82 (.pick (.t 78) (.c (.bool true)) (.t 81)),
 oo 69 (.asg (.t 82))]) (.cond (.t 69) (.seq (.seq (.reg [oo 83 (.faddr 108 1 (.t 11) 1),
 oo 84 (.load 74 none (.t 83)),
 oo 85 (.len 74 false (.t 84)),
 oo 86 (.bin .neq 3 0 (.t 85) (.n 0) 3)]) (.cond (.t 86) (.seq (.reg [oo 13 (.asg (.n 101))]) (.exit 2)) .skip)) (.seq (.reg [oo 87 (.faddr 108 0 (.t 11) 0),
 oo 88 (.load 3 none (.t 87))]) (.block 3 (.seq (.reg [oo 101 (.bin .eql 3 0 (.t 88) (.n 1) 3),
 oo 100 (.asg (.t 101))]) (.cond (.t 100) (.seq (.seq (.reg [oo 102 (.faddr 108 2 (.t 11) 2),
 oo 103 (.load 74 none (.t 102)),
 oo 104 (.len 74 false (.t 103)),
 oo 105 (.bin .eql 3 0 (.t 104) (.n 0) 3)]) (.cond (.t 105) (.seq (.reg [oo 13 (.asg (.n 101))]) (.exit 3)) .skip)) (.seq (.reg [oo 107 (.faddr 108 2 (.t 11) 2),
 oo 108 (.load 74 none (.t 107)),
 oc 109 120 [(false,(.t 108))] [74],
 oo 106 (.mva (.t 109)),
 oo 110 (.ext (.t 106) 0),
 oo 111 (.ext (.t 106) 1),
 ov (.store 76 2 (.t 12) (.t 110)),
 oo 13 (.asg (.t 111))]) (.seq (.seq (.reg [om 112 13,
 oo 113 (.bin .eql 3 0 (.t 112) (.n 0) 3),
 om 114 113,
 og 115 (.mv (.t 7)) 2 114 true,
 oo 116 (.pick (.t 114) (.t 115) (.c (.bool false))),
 om 117 116,
 og 118 (.load 76 (some 2) (.t 12)) 5 117 true,
 og 119 (.faddr 118 2 (.t 6) 2) 5 117 true,
 og 120 (.load 76 (some 2) (.t 119)) 5 117 true,
 ⟨(some 121),.call 45 [(false,(.t 118)),(false,(.t 120))] [76,76],(some (5,117,true))⟩,
 og 122 (.un .not 4 (.t 121)) 5 117 true,
 oo 123 (.pick (.t 117) (.t 122) (.c (.bool false)))]) (.cond (.t 123) (.reg [oo 13 (.asg (.n 101))]) .skip)) (.seq (.reg [om 124 13,
 oo 125 (.bin .eql 3 0 (.t 124) (.n 0) 3)]) (.cond (.t 125) (.seq (.reg [oo 126 (.load 76 (some 2) (.t 12)),
 oo 127 (.faddr 118 2 (.t 6) 2),
 ov (.store 76 2 (.t 127) (.t 126))]) (.reg [oo 7 (.asg (.c (.bool true)))])) .skip))))) (.seq (.reg [oo 129 (.bin .eql 3 0 (.t 88) (.n 3) 3),
 oo 128 (.asg (.t 129))]) (.cond (.t 128) (.seq (.seq (.reg [oo 130 (.faddr 108 2 (.t 11) 2),
 oo 131 (.load 74 none (.t 130)),
 oo 132 (.len 74 false (.t 131)),
 oo 133 (.bin .lss 3 0 (.t 132) (.n 2) 3)]) (.cond (.t 133) (.seq (.reg [oo 13 (.asg (.n 101))]) (.exit 3)) .skip)) (.seq (.reg [oo 134 (.faddr 108 2 (.t 11) 2),
 oo 135 (.load 74 none (.t 134)),
 oo 136 (.iaddr 74 1 (.t 135) (.n 0)),
 oo 137 (.load 3 none (.t 136)),
 oo 14 (.asg (.t 137))]) (.seq (.seq (.reg [om 138 14,
 oo 139 (.bin .lss 3 0 (.t 138) (.n 0) 3),
 om 140 139,
 og 141 (.mv (.t 14)) 2 140 false,
 og 142 (.bin .geq 3 0 (.t 141) (.n 8) 3) 2 140 false,
 oo 143 (.pick (.t 140) (.c (.bool true)) (.t 142))]) (.cond (.t 143) (.seq (.reg [oo 13 (.asg (.n 102))]) (.exit 3)) .skip)) (.seq (.reg [oo 145 (.faddr 108 2 (.t 11) 2),
 oo 146 (.load 74 none (.t 145)),
 oo 147 (.slice 74 1 (.t 146) (some (.n 1)) none none),
 oc 148 120 [(false,(.t 147))] [74],
 oo 144 (.mva (.t 148)),
 oo 149 (.ext (.t 144) 0),
 oo 150 (.ext (.t 144) 1),
 ov (.store 76 2 (.t 12) (.t 149)),
 oo 13 (.asg (.t 150))]) (.seq (.seq (.reg [om 151 13,
 oo 152 (.bin .neq 3 0 (.t 151) (.n 0) 3)]) (.cond (.t 152) (.exit 3) .skip)) (.seq (.block 4 (.loop a4r)) (.seq (.seq (.draw [om 167 8,
 om 168 14,
 oo 169 (.iaddr 177 1 (.t 167) (.t 168)),
 oo 170 (.load 4 none (.t 169)),
 om 171 170,
 og 172 (.load 76 (some 2) (.t 12)) 4 171 true,
 og 173 (.faddr 118 4 (.t 6) 3) 4 171 true,
 og 174 (.load 24 none (.t 173)) 4 171 true,
 og 175 (.mv (.t 14)) 4 171 true,
 og 176 (.iaddr 24 2 (.t 174) (.t 175)) 4 171 true,
 og 177 (.load 76 (some 2) (.t 176)) 4 171 true,
 ⟨(some 178),.call 45 [(false,(.t 172)),(false,(.t 177))] [76,76],(some (4,171,true))⟩,
 og 179 (.un .not 4 (.t 178)) 4 171 true,
 oo 180 (.pick (.t 171) (.t 179) (.c (.bool false)))] [[],[],[0,1],[2],[3],[4],[4],[6,4],[4],[7,8,4],[9,4],[5,10,4,4],[11,4],[4,12]]) (.cond (.t 180) (.seq (.reg [oo 13 (.asg (.n 101))]) (.exit 3)) .skip)) (.seq (.reg [oo 181 (.faddr 118 4 (.t 6) 3),
 oo 182 (.load 24 none (.t 181)),
 om 183 14,
 oo 184 (.load 76 (some 2) (.t 12)),
 oo 185 (.iaddr 24 2 (.t 182) (.t 183)),
 ov (.store 76 2 (.t 185) (.t 184))]) (.reg [om 186 8,
 om 187 14,
 oo 188 (.iaddr 177 1 (.t 186) (.t 187)),
 ov (.store 4 1 (.t 188) (.c (.bool true)))]))))))))) (.seq (.seq (.reg [oo 89 (.faddr 108 2 (.t 11) 2),
 oo 90 (.load 74 none (.t 89)),
 oo 91 (.len 74 false (.t 90)),
 oo 92 (.bin .neq 3 0 (.t 91) (.n 0) 3)]) (.cond (.t 92) (.seq (.reg [oo 13 (.asg (.n 101))]) (.exit 3)) .skip)) (.seq (.reg [oo 93 (.faddr 108 3 (.t 11) 3),
 oo 94 (.load 85 (some 3) (.t 93)),
 oc 95 41 [(false,(.t 94))] [85],
 oo 96 (.fld 31 0 (.t 95) 0),
 oo 13 (.asg (.t 96))]) (.reg [oo 97 (.faddr 108 3 (.t 11) 3),
 oo 98 (.faddr 85 0 (.t 97) 0),
 oo 99 (.load 76 (some 2) (.t 98)),
 ov (.store 76 2 (.t 12) (.t 99))])))))))))) (.seq (.reg [oo 190 (.faddr 108 0 (.t 11) 0),
 oo 191 (.load 3 none (.t 190)),
 oc 192 76 [(false,(.t 191))] [3],
 oo 189 (.asg (.t 192))]) (.cond (.t 189) (.seq (.reg [oo 15 (.asg (.nl 2))]) (.seq (.seq (.reg [oo 16 (.asg (.n 0))]) (.block 6 (.loop a4s))) (.reg [oo 213 (.faddr 108 0 (.t 11) 0),
 oo 214 (.load 3 none (.t 213)),
 oo 215 (.faddr 108 2 (.t 11) 2),
 oo 216 (.load 74 none (.t 215)),
 om 217 15,
 oc 218 46 [(false,(.t 214)),(false,(.t 216)),(false,(.t 217))] [3,74,24],
 oo 212 (.mva (.t 218)),
 oo 219 (.ext (.t 212) 0),
 oo 220 (.ext (.t 212) 1),
 ov (.store 76 2 (.t 12) (.t 219)),
 oo 13 (.asg (.t 220))]))) (.reg [oo 13 (.asg (.n 103))]))))))
def a6k:IC:=(.seq (.seq (.reg [om 53 9,
 om 54 4,
 oo 55 (.len 74 false (.t 54)),
 oo 56 (.bin .lss 3 0 (.t 53) (.t 55) 3)]) (.cond (.t 56) .skip (.exit 0))) (.seq (.block 1 (.seq (.reg [om 59 4,
 om 60 9,
 oo 61 (.iaddr 74 1 (.t 59) (.t 60)),
 oo 62 (.load 3 none (.t 61)),
 oo 10 (.asg (.t 62))]) (.seq (.reg [oo 63 (.faddr 49 0 (.t 1) 0),
 oo 64 (.load 47 none (.t 63)),
 om 65 10,
 oo 66 (.iaddr 47 6 (.t 64) (.t 65)),
 oo 67 (.load 108 (some 6) (.t 66)),
 oo 11 (.alloc 108 [.lit (.int .i64 0),.own 1 0 [],.own 1 0 [],.own 1 0 [],.lit (.bool false),.own 1 0 []]),
 ov (.store 108 6 (.t 11) (.t 67))]) (.seq (.reg [oo 68 (.build 76 [.sl 0 [],.lit (.bool false)] []),
 oo 12 (.alloc 76 [.own 1 0 [],.lit (.bool false)]),
 ov (.store 76 2 (.t 12) (.t 68))]) (.seq (.reg [oo 13 (.asg (.n 0))]) (.seq b9m (.seq (.seq (.reg [om 221 13,
 oo 222 (.bin .neq 3 0 (.t 221) (.n 0) 3)]) (.cond (.t 222) (.seq (.reg [oo 223 (.build 118 [.sl 0 [],.sl 0 [],.sl 0 [],.lit (.bool false),.sl 0 []] []),
 om 224 13,
 om 225 10,
 oc 226 35 [(false,(.t 224)),(false,(.t 225))] [3,3],
 ov (.store 118 5 (.t 2) (.t 223)),
 ov (.store 31 3 (.t 3) (.t 226))]) .ret) .skip)) (.draw [oo 227 (.faddr 118 1 (.t 6) 1),
 oo 228 (.load 24 none (.t 227)),
 om 229 10,
 oo 230 (.load 76 (some 2) (.t 12)),
 oc 231 102 [(false,(.t 230))] [76],
 oo 232 (.iaddr 24 2 (.t 228) (.t 229)),
 ov (.store 76 2 (.t 232) (.t 231))] [[],[0],[],[],[3],[1,2,0,1,2,3,4],[5,4,4,0,1,2,3,4]])))))))) (.reg [om 57 9,
 oo 58 (.bin .add 3 0 (.t 57) (.n 1) 3),
 oo 9 (.asg (.t 58))])))
def a31:IC:=(.seq (.reg [oo 1 (.box 49 2 (.t 0)),
 oo 2 (.alloc 118 [.own 1 0 [],.own 2 0 [],.own 1 0 [],.lit (.bool false),.own 2 0 []]),
 oo 3 (.alloc 31 [.lit (.int .i64 0),.lit (.bool false),.lit (.int .i64 0)])]) (.seq (.seq (.reg [oo 17 (.faddr 49 0 (.t 1) 0),
 oo 18 (.load 47 none (.t 17)),
 oo 19 (.len 47 false (.t 18)),
 oo 20 (.bin .gtr 3 0 (.t 19) (.n 64) 3)]) (.cond (.t 20) (.seq (.reg [oo 21 (.build 118 [.sl 0 [],.sl 0 [],.sl 0 [],.lit (.bool false),.sl 0 []] []),
 oc 22 38 [(false,(.n 104))] [3],
 ov (.store 118 5 (.t 2) (.t 21)),
 ov (.store 31 3 (.t 3) (.t 22))]) .ret) .skip)) (.seq (.seq (.reg [oo 23 (.faddr 49 1 (.t 1) 1),
 oo 24 (.load 3 none (.t 23)),
 oo 25 (.bin .lss 3 0 (.t 24) (.n 0) 3),
 om 26 25,
 og 27 (.faddr 49 1 (.t 1) 1) 3 26 false,
 og 28 (.load 3 none (.t 27)) 3 26 false,
 og 29 (.faddr 49 0 (.t 1) 0) 3 26 false,
 og 30 (.load 47 none (.t 29)) 3 26 false,
 og 31 (.len 47 false (.t 30)) 3 26 false,
 og 32 (.bin .geq 3 0 (.t 28) (.t 31) 3) 3 26 false,
 oo 33 (.pick (.t 26) (.c (.bool true)) (.t 32))]) (.cond (.t 33) (.seq (.reg [oo 34 (.build 118 [.sl 0 [],.sl 0 [],.sl 0 [],.lit (.bool false),.sl 0 []] []),
 oc 35 38 [(false,(.n 107))] [3],
 ov (.store 118 5 (.t 2) (.t 34)),
 ov (.store 31 3 (.t 3) (.t 35))]) .ret) .skip)) (.seq (.reg [oo 37 (.load 49 (some 2) (.t 1)),
 oc 38 119 [(false,(.t 37))] [49],
 oc 39 118 [(false,(.t 38))] [164],
 oo 36 (.mva (.t 39)),
 oo 40 (.ext (.t 36) 0),
 oo 41 (.ext (.t 36) 1),
 oo 5 (.alloc 31 [.lit (.int .i64 0),.lit (.bool false),.lit (.int .i64 0)]),
 oo 4 (.asg (.t 40)),
 ov (.store 31 3 (.t 5) (.t 41))]) (.seq (.seq (.reg [oo 42 (.faddr 31 0 (.t 5) 0),
 oo 43 (.load 3 none (.t 42)),
 oo 44 (.bin .neq 3 0 (.t 43) (.n 0) 3)]) (.cond (.t 44) (.seq (.draw [oo 45 (.build 118 [.sl 0 [],.sl 0 [],.sl 0 [],.lit (.bool false),.sl 0 []] []),
 oo 46 (.load 31 (some 3) (.t 5)),
 ov (.store 118 5 (.t 2) (.t 45)),
 ov (.store 31 3 (.t 3) (.t 46))] [[],[],[0,0],[1,2,0,1,2]]) .ret) .skip)) (.seq (.reg [om 47 4,
 oo 48 (.faddr 49 0 (.t 1) 0),
 oo 49 (.load 47 none (.t 48)),
 oo 50 (.len 47 false (.t 49)),
 oo 51 (.mks 24 76 2 32 [.sl 0 [],.lit (.bool false)] (.t 50) (.t 50)),
 oo 52 (.build 118 [.own 1 0 [],.own 2 0 [],.sl 0 [],.lit (.bool false),.own 2 0 []] [(0,0,1,(.t 47)),(1,1,1,(.t 51))]),
 oo 6 (.alloc 118 [.own 1 0 [],.own 2 0 [],.own 1 0 [],.lit (.bool false),.own 2 0 []]),
 ov (.store 118 5 (.t 6) (.t 52))]) (.seq (.reg [oo 7 (.asg (.c (.bool false)))]) (.seq (.reg [oo 8 (.asg (.nl 1))]) (.seq (.seq (.reg [oo 9 (.asg (.n 0))]) (.block 0 (.loop a6k))) (.seq (.draw [oo 233 (.load 118 (some 5) (.t 6)),
 oc 234 43 [] [],
 ov (.store 118 5 (.t 2) (.t 233)),
 ov (.store 31 3 (.t 3) (.t 234))] [[],[],[0,1,0],[1,2,0,1,2]]) .ret))))))))))
abbrev b6r:Nat:=68
theorem b3n:fnC pg 68 235 [(.cells 2 5),(.cells 3 3)] a31:=a0s Go.Proofs.Tryz.f68 [(.cell 2 118),(.cell 3 31)] (by kernel_rfl)
def a39:IC:=(.seq (.reg [oo 2 (.alloc 76 [.own 1 0 [],.lit (.bool false)]),
 oo 3 (.asg (.n 0))]) (.seq (.seq (.reg [om 5 0,
 oo 6 (.iaddr 74 1 (.t 5) (.n 0)),
 oo 7 (.load 3 none (.t 6)),
 oo 8 (.bin .lss 3 0 (.t 7) (.n 0) 3),
 om 9 8,
 og 10 (.mv (.t 0)) 4 9 false,
 og 11 (.iaddr 74 1 (.t 10) (.n 0)) 4 9 false,
 og 12 (.load 3 none (.t 11)) 4 9 false,
 og 13 (.bin .gtr 3 0 (.t 12) (.n 1) 3) 4 9 false,
 oo 14 (.pick (.t 9) (.c (.bool true)) (.t 13))]) (.cond (.t 14) (.seq (.reg [oo 15 (.build 76 [.sl 0 [],.lit (.bool false)] []),
 ov (.store 76 2 (.t 2) (.t 15)),
 oo 3 (.asg (.n 102))]) .ret) .skip)) (.seq (.draw [om 16 0,
 oo 17 (.slice 74 1 (.t 16) (some (.n 1)) none none),
 oc 18 93 [(false,(.t 17))] [74],
 om 19 0,
 oo 20 (.iaddr 74 1 (.t 19) (.n 0)),
 oo 21 (.load 3 none (.t 20)),
 oo 22 (.bin .eql 3 0 (.t 21) (.n 1) 3),
 oo 23 (.build 76 [.own 1 0 [],.lit (.bool false)] [(0,0,1,(.t 18)),(1,1,1,(.t 22))]),
 oo 4 (.alloc 76 [.own 1 0 [],.lit (.bool false)]),
 ov (.store 76 2 (.t 4) (.t 23))] [[],[0],[1],[],[3],[4],[5],[2,6],[],[8,7,2,0,1,2,3,4,5,6,7,8]]) (.seq (.draw [oo 24 (.load 76 (some 2) (.t 4)),
 oo 25 (.load 76 (some 2) (.t 4)),
 oc 26 39 [(false,(.t 25))] [76],
 ov (.store 76 2 (.t 2) (.t 24)),
 oo 3 (.asg (.t 26))] [[],[],[1],[0,2,0],[2,3,0,1,2,3]]) .ret))))
abbrev b4m:Nat:=120
theorem b1r:fnC pg 120 27 [(.cells 2 2),(.tmp 3)] a39:=a0s Go.Proofs.Tryz.f120 [(.cell 2 76),(.tmp 3)] (by kernel_rfl)
def a4x:IC:=(.seq (.seq (.reg [om 5 4,
 oo 6 (.faddr 49 0 (.t 1) 0),
 oo 7 (.load 47 none (.t 6)),
 oo 8 (.len 47 false (.t 7)),
 oo 9 (.bin .lss 3 0 (.t 5) (.t 8) 3)]) (.cond (.t 9) .skip (.exit 0))) (.seq (.block 1 (.reg [om 12 3,
 oo 13 (.faddr 49 0 (.t 1) 0),
 oo 14 (.load 47 none (.t 13)),
 om 15 4,
 oo 16 (.iaddr 47 6 (.t 14) (.t 15)),
 oo 17 (.faddr 108 1 (.t 16) 1),
 oo 18 (.load 74 none (.t 17)),
 oo 19 (.bslice 164 74 1 1 [.own 1 0 []] [(0,(.t 18))]),
 oo 20 (.app 164 74 1 24 (.t 12) (.t 19)),
 oo 3 (.asg (.t 20))])) (.reg [om 10 4,
 oo 11 (.bin .add 3 0 (.t 10) (.n 1) 3),
 oo 4 (.asg (.t 11))])))
def a7v:IC:=(.seq (.reg [oo 1 (.box 49 2 (.t 0)),
 oo 2 (.asg (.nl 1))]) (.seq (.reg [oo 3 (.asg (.nl 1))]) (.seq (.seq (.reg [oo 4 (.asg (.n 0))]) (.block 0 (.loop a4x))) (.seq (.reg [om 21 3,
 oo 2 (.asg (.t 21))]) .ret))))
abbrev a7n:Nat:=119
theorem b0v:fnC pg 119 22 [(.tmp 2)] a7v:=a0s Go.Proofs.Tryz.f119 [(.tmp 2)] (by kernel_rfl)
end Go.Ideal.Tryz
end
section
namespace Go.Ideal.Tryz
attribute [local go_sem] eD eT eV
def eC (e:Er):Int:=e.flt.1
theorem a7s:eC .nil=0:=rfl
theorem c4g (sh:List Int):a9u sh=eC (a01 sh):=rfl
theorem eC6:eC (.s 6)=101:=by decide
theorem eC3:eC (.s 3)=102:=by decide
theorem eC5:eC (.s 5)=103:=by decide
theorem a8j (sh:List Int):eC (a01 sh)=0↔(a01 sh).isNil=true:=by
 rcases a2m sh with e | e | e<;>rw [e]
 ·simp [eC,Er.flt,Er.isNil]
 ·exact ⟨fun h=>absurd h (by decide),fun h=>by cases h⟩
 ·exact ⟨fun h=>absurd h (by decide),fun h=>by cases h⟩
abbrev rAV (r:Dr):AV:= .tup [.agg (eD r.1),li (eC r.2)]
section
variable {G:GG} {bk:Nat->Nat×Nat} {Q:Exit->St->Prop} {st:St}
theorem c4k (n:Int):b4w n false=a1k n:=by simp [b4w,a1k,Bool.decide_and]
theorem d2h (n:Int) (w:Bool):b4w n w=b8j n w:=by cases w<;>simp [b4w,b8j,a1k,Bool.decide_and]
theorem a86 (n:Int):ACalls pg G b26 [li n] (lb (a1k n)):=by
 refine b0w rfl ?_
 have h:=d2z (G:=G) n false
 rw [c4k] at h
 simp (disch:=omega) [go_sem,a7w]
 refine a0c h rfl rfl ?_
 simp (disch:=omega) [go_sem]
theorem a1z (n:Int):ACalls pg G a1j [li n] (lb (a0t n)):=by
 refine b1t rfl ?_
 by_cases h:4<=n<;>simp (disch:=omega) [go_sem,a8u,h,a0t]
theorem b2d (n:Int):ACalls pg G b6s [li n] (li (a1r n)):=by
 refine b3o rfl ?_
 by_cases h:n=4\/n=5\/n=6\/n=7\/n=12\/n=13\/n=16\/n=17
 ·rcases h with rfl | rfl | rfl | rfl | rfl | rfl | rfl | rfl<;>simp (disch:=omega) [go_sem,a7d,a1r]
 ·have h':=h
  simp only [not_or] at h'
  obtain ⟨a,b,c,d,e,f,g,i⟩:=h'
  simp (disch:=omega) [go_sem,a7d,a,b,c,d,e,f,g,i]
  refine a0c (a1z n) rfl rfl ?_
  cases k:a0t n<;>simp (disch:=omega) [go_sem,a1r,a,b,c,d,e,f,g,i,k]
theorem a8b (n:Int):ACalls pg G b52 [li n] (li (a08 n)):=by
 refine b2t rfl ?_
 by_cases h:n=9\/n=12\/n=14\/n=15\/n=10\/n=13\/n=11
 ·rcases h with rfl | rfl | rfl | rfl | rfl | rfl | rfl<;>simp (disch:=omega) [go_sem,a6l,a08]
 ·simp only [not_or] at h
  obtain ⟨a,b,c,d,e,f,g⟩:=h
  simp (disch:=omega) [go_sem,a6l,a08,a,b,c,d,e,f,g]
theorem e9m {a b:Ds}:(a=b)↔a.shape=b.shape/\a.wide=b.wide:=by
 obtain ⟨a1,a2⟩:=a; obtain ⟨b1,b2⟩:=b; simp
theorem b21 (a b:Ds) (ha:a.shape.length < 2 ^ 62):ACalls pg G b2g [.agg (eD a),.agg (eD b)] (lb (decide (a=b))):=by
 refine a94 rfl ?_
 simp (disch:=omega) [go_sem,a7e]
 refine a0c (c71 ha) rfl rfl ?_
 have e:decide (a=b)=(decide (a.shape=b.shape)&&decide (a.wide=b.wide)):=by
  rw [<-Bool.decide_and]; exact decide_eq_decide.2 e9m
 rw [e]
 by_cases c:a.shape=b.shape<;>simp (disch:=omega) [go_sem,c]
theorem e65 (a:Ds):fm eD [a]=[slI a.shape,lb a.wide]:=rfl
theorem e66 (a b:Ds):fm eD [a,b]=[slI a.shape,lb a.wide,slI b.shape,lb b.wide]:=rfl
def a1g:List Ds->Er
 | []=> .nil
 | d::ds=>if (a01 d.shape).isNil=true then a1g ds else a01 d.shape
theorem a21 (r:Dr):∀ ds:List Ds,a9b ds r=chk (a1g ds) r
 | []=>by simp [a9b,a1g,chk,Er.isNil]
 | d::ds=>by
  simp only [a9b,a1g,a21 r ds]
  cases h:(a01 d.shape).isNil
  ·simp [chk,h]
  ·simp [chk,h]
theorem a0v:∀ ds:List Ds,a1g ds= .nil\/a1g ds= .s 2\/a1g ds= .s 3
 | []=> .inl rfl
 | d::ds=>by
  simp only [a1g]
  split
  ·exact a0v ds
  ·exact a2m _
theorem e1h {a b:Ds} (h:a1g [a,b]= .nil):a01 a.shape= .nil/\a01 b.shape= .nil:=by
 rcases a2m a.shape with e | e | e<;>rcases a2m b.shape with e2 | e2 | e2<;>simp_all [a1g,Er.isNil]
theorem a2w (l:List Ds) (hl:l.length < 2 ^ 62) (hs:∀ d∈l,d.shape.length < 2 ^ 62):ACalls pg G b4p [slD l] (li (eC (a1g l))):=by
 refine b1v rfl ?_
 simp (disch:=omega) [go_sem,a8y]
 refine a0u Nat (fun i st=>i<=l.length/\a1g (l.drop i)=a1g l/\st.s 0=slD l/\st.s 3=li i) (fun i=>l.length - i) 0 ⟨by simp,rfl,by simp (disch:=omega) [go_sem]⟩ ?_
 rintro i st K ⟨hi,hm,h⟩ hK
 by_cases hlt:i < l.length
 ·rw [List.drop_eq_getElem_cons hlt,a1g] at hm
  have c:=a62 (G:=G) l[i].shape l[i].wide (hs _ (List.getElem_mem hlt))
  rw [c4g] at c
  simp (disch:=omega) [go_sem,a5d,h,hlt]
  refine a0c c rfl rfl ?_
  by_cases hn:(a01 l[i].shape).isNil=true
  ·have h0:=(a8j l[i].shape).2 hn
   rw [if_pos hn] at hm
   simp (disch:=omega) [go_sem,h,h0]
   exact hK (i+1) _ ⟨by omega,hm,by simp (disch:=omega) [go_sem,h]⟩ (by omega)
  ·have h0:¬ eC (a01 l[i].shape)=0:=fun k=>hn ((a8j l[i].shape).1 k)
   rw [if_neg hn] at hm
   have h1:¬ eC (a1g l)=0:=by rw [<-hm]; exact h0
   simp (disch:=omega) [go_sem,h,h0,h1,hm]
 ·obtain rfl:i=l.length:=by omega
  rw [List.drop_length] at hm
  simp (disch:=omega) [go_sem,a5d,h,<-hm,a1g,a7s]
theorem b14 (sh:List Int) (w:Bool) (hlen:sh.length < 2 ^ 40):ACalls pg G b0e [.agg [slI sh,lb w]] (.agg [slI sh,lb w]):=
 ACalls.shown (d1v sh w hlen) (by simp [go_sem,frz,a2z])
theorem b09 (sh:List Int) (w:Bool) (hlen:sh.length < 2 ^ 40):ACalls pg G b54 [.agg [slI sh,lb w]] (rAV (a6f sh w)):=by
 refine b2v rfl ?_
 have c:=a62 (G:=G) sh w (by omega)
 rw [c4g] at c
 simp (disch:=omega) [go_sem,a9x]
 refine a0c c rfl rfl ?_
 by_cases hn:(a01 sh).isNil=true
 ·have h0:=(a8j sh).2 hn
  simp (disch:=omega) [go_sem,h0]
  refine a0g (b14 sh w hlen) (by simp [go_sem,a0p]) (by simp (disch:=omega) [go_sem]) ?_
  simp (disch:=omega) [go_sem,a6f,chk,hn,a7s]
 ·have h0:¬ eC (a01 sh)=0:=fun k=>hn ((a8j sh).1 k)
  simp (disch:=omega) [go_sem,h0,a6f,chk,hn,dn]
end
end Go.Ideal.Tryz
end
