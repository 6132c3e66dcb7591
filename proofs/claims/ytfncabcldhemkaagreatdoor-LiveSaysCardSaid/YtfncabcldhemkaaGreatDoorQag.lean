/- Part Qag of the proof: walks on a machine that is proved sound. -/
import Derived.Test.YtfncabcldhemkaaGreatDoorQaf
import Derived.Test.YtfncabcldhemkaaGreatDoorProg
import Derived.Carry
import Derived.ChangeSame
import Derived.ChangeVars
import Derived.JoinedOf
import Derived.RowKit
import Derived.RowKitTokens
import Derived.LaidLaws
import Derived.LaidHandle
import Derived.Stop.Joined
import Derived.Handed
import Derived.SevenTiedAt
import Derived.Test.YtfncabcldhemkaaGreatDoorRows
import Derived.MakeChecks
set_option linter.unusedVariables false
set_option linter.unusedSimpArgs false
set_option maxRecDepth 10000
section
namespace Go.Ideal
section
variable {P:Program} {G:GG} {N:Nat} {st:St} {K:St->Prop} {T:List (Nat×AV)} {u:Nat}
def lkB {α:Type} (b:Bool) (v:α) (o:Option α):Option α:=if b then some v else o
@[go_sem] theorem f6c {α:Type} {v:α} {o:Option α}:lkB false v o=o:=(rfl)
@[go_sem] theorem e7o {α:Type} {a b:Nat} {v:α} {T:List (Nat×α)}:List.lookup a ((b,v)::T)=lkB (a==b) v (List.lookup a T):=by
 simp only [List.lookup_cons,lkB]
 cases a==b<;>rfl
def d9n (b:Bool) (o:Option AV) (T:List (Nat×AV)) (v:AV):AV:=if b then (match o with
 | some av=>av
 | none=>a2s (c2r T) v) else .dead
@[congr] theorem d9o {b b':Bool} {o o':Option AV} {v:AV} (h:b=b') (h2:o=o'):d9n b o T v=d9n b' o' T v:=by rw [h,h2]
@[go_sem] theorem f44 {av v:AV}:d9n true (some av) T v=av:=(rfl)
@[go_sem] theorem f42 {v:AV}:d9n true none T v=a2s (c2r T) v:=(rfl)
@[go_sem] theorem f0v:(st.lentS N T).s u=d9n (decide (u < N)) (T.lookup u) T (st.s u):=by
 simp only [St.lentS,d9n,decide_eq_true_eq]
 cases T.lookup u<;>rfl
@[go_sem] theorem e7k:(st.lentS N T).ep u=st.ep u:=(rfl)
def d6w (b:Bool) (o:Option (List AV×List (Nat×Nat))):Option (List AV×List (Nat×Nat)):=if b then o else none
@[congr] theorem d9y {b b':Bool} {o:Option (List AV×List (Nat×Nat))} (h:b=b'):d6w b o=d6w b' o:=by rw [h]
@[go_sem] theorem f5c {o:Option (List AV×List (Nat×Nat))}:d6w true o=o:=(rfl)
section
variable {st1:St} {acc:List AV} {L:List (Nat×Nat)} {es:List (Option Nat×AV)}
def pxV (N:Nat) (st1 st:St) (acc:List AV) (L:List (Nat×Nat)) (t:Nat) (v v1:AV) (es:List (Option Nat×AV)):Option (List AV×List (Nat×Nat)):=match v,v1 with
 | .var (k::ks),.var (_::_)=>pX N st1 st (acc++[.var (k::ks)]) (L++[(t,acc.length)]) es
 | _,_=>none
def pxR (N:Nat) (st1 st:St) (acc:List AV) (L:List (Nat×Nat)) (t e:Nat) (o:Option Nat) (es:List (Option Nat×AV)):Option (List AV×List (Nat×Nat)):=match o with
 | some j=>d6w (decide (e=st.ep t)) (pX N st1 st (acc++[.ref j [] 0 0]) L es)
 | none=>d6w (decide (e=st.ep t)&&decide (t < N)) (pxV N st1 st acc L t (st.s t) (st1.s t) es)
@[congr] theorem e74 {acc':List AV} {L':List (Nat×Nat)} {es':List (Option Nat×AV)} (h1:acc=acc') (h2:L=L') (h3:es=es'):pX N st1 st acc L es=pX N st1 st acc' L' es':=by rw [h1,h2,h3]
@[go_sem] theorem f6g {t e:Nat}:pxR N st1 st acc L t e none es=d6w (decide (e=st.ep t)&&decide (t < N)) (pxV N st1 st acc L t (st.s t) (st1.s t) es):=(rfl)
@[go_sem] theorem f5d {t e:Nat}:pX N st1 st acc L ((none,.ref t [] 0 e)::es)=pxR N st1 st acc L t e (L.lookup t) es:=by
 simp only [pX,pxR,d6w,pxV,decide_eq_true_eq,Bool.and_eq_true]
 cases L.lookup t<;>rfl
@[go_sem] theorem f63 {t:Nat}:xv st (.t t)=st.s t:=(rfl)
@[go_sem] theorem f62 {n:Nat}:xv st (.f n)= .fn n [] []:=(rfl)
@[go_sem] theorem e9p {fs cs:List AV} {lay:List CS}:c0d N st fs lay cs=fs.map (fun a=>(none,a))++(lay.map (c76 N st)++cs.map (fun a=>(none,a))):=(rfl)
@[go_sem] theorem f3p {k:Nat}:c76 N st (.p k)=(some k,st.s (N+2+k)):=(rfl)
@[go_sem] theorem f3q {y:X}:c76 N st (.x y)=(none,xv st y):=(rfl)
end
def d2f (st:St) (N:Nat) (T:List (Nat×AV)) (d:Option Nat) (res:AV):St:=match d with
 | some d=>(st.lentS N T).thru N d res
 | none=>st.lentS N T
@[go_sem] theorem e2e {d:Nat} {res:AV}:d2f st N T (some d) res=(st.lentS N T).thru N d res:=(rfl)
def c9l:AV->Bool
 | .var _=>true
 | _=>false
def clx (P:Program) (G:GG) (N:Nat) (d:Option Nat) (f:FuncId) (pre:List AV) (L:List (Nat×Nat)) (st1 st2:St) (K:St->Prop):Prop:=
 ∃ res posts,ACallsX P G f pre res posts/\a0p res=true/\posts.map (·.1)=L.map (·.2)/\(posts.all fun p=>c9l p.2)=true/\K (d2f (if a1l res&&posts.all fun p=>a1l p.2 then st1 else st2) N ((L.map (·.1)).zip (posts.map (·.2))) d res)
def e1k (P:Program) (G:GG) (N:Nat) (d:Option Nat) (f:FuncId) (st1 st2:St) (o:Option (List AV×List (Nat×Nat))) (K:St->Prop):Prop:=match o with
 | some x=>clx P G N d f x.1 x.2 st1 st2 K
 | none=>False
def d5s (P:Program) (G:GG) (N:Nat) (d:Option Nat) (v:AV) (lay:List CS) (st1 st2:St) (K:St->Prop):Prop:=match v with
 | .fn f fs cs=>fnB P f=true/\e1k P G N d f st1 st2 (pX N st1 st2 [] [] (c0d N st2 fs lay cs)) K
 | _=>False
def d1x (P:Program) (G:GG) (N:Nat) (d:Option Nat) (cv:X) (lay:List CS) (o1 o2:Option St) (K:St->Prop):Prop:=match o1,o2 with
 | some st1,some st2=>d5s P G N d (xv st2 cv) lay st1 st2 K
 | _,_=>False
def d5t (P:Program) (G:GG) (N:Nat) (d:Option Nat) (cv:X) (args:List (Bool×X)) (lay:List CS) (o1:Option St) (K:St->Prop):Prop:=d1x P G N d cv lay o1 (pss N (N+2) args o1) K
section
variable {d:Option Nat} {cv:X} {args:List (Bool×X)} {lay:List CS} {st1 st2:St} {f:FuncId}
@[congr] theorem d8s {o o':Option St} (h:o=o'):d5t P G N d cv args lay o K=d5t P G N d cv args lay o' K:=by rw [h]
@[congr] theorem d8t {o1 o o':Option St} (h:o=o'):d1x P G N d cv lay o1 o K=d1x P G N d cv lay o1 o' K:=by rw [h]
@[congr] theorem d8r {v v':AV} (h:v=v'):d5s P G N d v lay st1 st2 K=d5s P G N d v' lay st1 st2 K:=by rw [h]
@[congr] theorem d8u {o o':Option (List AV×List (Nat×Nat))} (h:o=o'):e1k P G N d f st1 st2 o K=e1k P G N d f st1 st2 o' K:=by rw [h]
@[go_sem] theorem e1i:d5t P G N d cv args lay (some st) K=d1x P G N d cv lay (some st) (pss N (N+2) args (some st)) K:=(rfl)
@[go_sem] theorem e1j:d1x P G N d cv lay (some st1) (some st2) K=d5s P G N d (xv st2 cv) lay st1 st2 K:=(rfl)
@[go_sem] theorem e9d {fs cs:List AV}:d5s P G N d (.fn f fs cs) lay st1 st2 K=(fnB P f=true/\e1k P G N d f st1 st2 (pX N st1 st2 [] [] (c0d N st2 fs lay cs)) K):=(rfl)
@[go_sem] theorem d79 {tys:List TypeId} {rest:List AO}:b12 P G N (⟨d,.callx cv args lay tys,none⟩::rest) K st=d5t P G N d cv args lay (gvs N (N+2) args (some st)) (b12 P G N rest K):=by
 simp only [b12,b0j,b8i,c5u]
 rw [<-a87]
 have hvar:∀ {posts:List (Nat×AV)},(∀ i av,(i,av)∈posts->∃ ks,av= .var ks)↔(posts.all fun p=>c9l p.2)=true:=by
  intro posts
  simp only [List.all_eq_true]
  constructor
  ·rintro h ⟨i,av⟩ hm
   obtain ⟨ks,rfl⟩:=h i av hm
   rfl
  ·intro h i av hm
   have:=h _ hm
   cases av<;>simp [c9l] at this
   exact ⟨_,rfl⟩
 apply propext
 constructor
 ·rintro ⟨f,fs,cs,st1,st2,L,pre,res,posts,st3,h1,h2,h3,h4,h5,h6,h7,h8,h9,h10,h11⟩
  have e2:=a40 (N:=N) args (N+2) st1
  rw [h2] at e2
  simp only [h1,Option.map,d5t,d1x,<-e2,h3,d5s,h5,e1k]
  refine ⟨h4,res,posts,h6,h7,h8,hvar.1 h9,?_⟩
  have:d2f (if a1l res&&posts.all fun p=>a1l p.2 then st1 else st2) N ((L.map (·.1)).zip (posts.map (·.2))) d res=st3:=by
   cases d with
   | none=>
    simp only [c3u,Ev.run_pure,Option.some.injEq,Prod.mk.injEq,true_and] at h10
    exact h10
   | some d=>
    simp only [c3u,b4c,Option.some.injEq,Prod.mk.injEq,true_and] at h10
    exact h10
  rw [this]; exact h11
 ·cases h1:(a6p N (N+2) args).run st with
  | none=>intro h; simp only [Option.map,d5t,d1x] at h
  | some r=>
   obtain ⟨_,st1⟩:=r
   simp only [Option.map,d5t]
   rw [<-a40]
   cases h2:(a4i N (N+2) args).run st1 with
   | none=>intro h; simp only [Option.map,d1x] at h
   | some r2=>
    obtain ⟨_,st2⟩:=r2
    simp only [Option.map,d1x]
    cases h3:xv st2 cv<;>simp only [d5s]<;>try exact False.elim
    rename_i f fs cs
    rintro ⟨h4,h⟩
    cases h5:pX N st1 st2 [] [] (c0d N st2 fs lay cs) with
    | none=>rw [h5] at h; exact h.elim
    | some x=>
     obtain ⟨pre,L⟩:=x
     rw [h5] at h
     obtain ⟨res,posts,h6,h7,h8,h9,h10⟩:=h
     refine ⟨f,fs,cs,st1,st2,L,pre,res,posts,_,rfl,h2,h3,h4,h5,h6,h7,h8,hvar.2 h9,?_,h10⟩
     cases d<;>rfl
theorem d5u {pre:List AV} {L:List (Nat×Nat)} {res:AV} {posts:List (Nat×AV)} (hA:ACallsX P G f pre res posts) (hn:a0p res=true) (hp:posts.map (·.1)=L.map (·.2)) (hv:(posts.all fun p=>c9l p.2)=true)
  (h:K (d2f st1 N ((L.map (·.1)).zip (posts.map (·.2))) d res)) (h2:K (d2f st2 N ((L.map (·.1)).zip (posts.map (·.2))) d res)):clx P G N d f pre L st1 st2 K:=⟨res,posts,hA,hn,hp,hv,by split; exact h; exact h2⟩
end
section
variable {d:Option Nat} {cv:X} {args:List (Bool×X)} {lay:List CS} {f:FuncId} {aft:DA} {rest:List AO} {fps:List (List Nat×List Nat)} {K:St->Prop} {ex:List Nat}
end
def d2b (rs:List RV) (res:AV) (posts:List (Nat×AV)):Exit->St->Prop
 | .normal,st | .ret,st=>e0a rs st=some res/\∀ p∈posts,st.s p.1=p.2
 | _,_=>False
section
variable {rs:List RV} {res:AV} {posts:List (Nat×AV)}
def poK:List (Nat×AV)->St->Prop
 | [],_=>True
 | p::ps,st=>st.s p.1=p.2/\poK ps st
@[go_sem] theorem f1p:poK [] st=True:=(rfl)
@[go_sem] theorem e76 {t:Nat} {v:AV} {ps:List (Nat×AV)}:poK ((t,v)::ps) st=(st.s t=v/\poK ps st):=(rfl)
theorem d0e:∀ {ps:List (Nat×AV)},(∀ p∈ps,st.s p.1=p.2)=poK ps st
 | []=>by simp [poK]
 | p::ps=>by simp only [List.mem_cons,forall_eq_or_imp,poK,d0e (ps:=ps)]
@[go_sem] theorem e9q:d2b rs res posts .ret st=(e8x (rvL rs st)=some res/\poK posts st):=by rw [<-d0e]; rfl
theorem c4h {vs:List ResultVar} (h:c3k P N rs vs=true):∀ e st,d2b rs res posts e st->f4f P N vs res posts e st:=by
 intro e st hq
 have key:e0a rs st=some res->c0t P N st vs=some res:=by
  intro hk
  unfold e0a at hk
  cases hl:rvL rs st with
  | none=>rw [hl] at hk; cases hk
  | some ks=>
   rw [hl] at hk
   simp only [c0t,b73 h hl]
   exact hk
 cases e<;>first | exact ⟨key hq.1,hq.2⟩ | exact hq
end
theorem ACallsX.of_walk {P:Program} {G:GG} {f:FuncId} {fn:Func} {c:Code} {N:Nat} {vs:List ResultVar} {rs:List RV} {ic:IC} (hord:P.follows .mixedOrders=true) (hf:P.funcs[f]? =some fn) (hb:fn.body=some c) (hN:fn.ntmps=N) (hrs:fn.results.toList=vs) (hnd:(vs.map rvT).Nodup)
  (he:b1o c=ic.ec) (hok:ic.ok P N=true) (hr:c3k P N rs vs=true) {pins:List Nat} (hpin:ic.pin pins=true) {pre:List AV} {res:AV} {posts:List (Nat×AV)} (hsz:pre.length<=N) (hpo:posts.map (·.1)=pins) (hpr:pins.all (fun t=> !(vs.map rvT).contains t&&decide (t < pre.length))=true) (hnr:(posts.all fun p=>a0p p.2)=true)
  (h:AW P G N ic (d2b rs res posts) (St.init pre)):ACallsX P G f pre res posts:=
 b0k hf hb hN hrs hnd hsz (fun p hp=>by
  have:=List.all_eq_true.1 hpr p.1 (by rw [<-hpo]; exact List.mem_map.2 ⟨p,hp,rfl⟩)
  simp only [Bool.and_eq_true,Bool.not_eq_true',decide_eq_true_eq] at this
  exact ⟨fun hm=>by simp [hm] at this,this.2,List.all_eq_true.1 hnr p hp⟩) (by rw [hpo]; exact (c5q hord ic c _ _ he hok hpin h).mono (c4h hr))
end
abbrev oo (d:Nat) (i:IOp):AO:=⟨some d,.op i,none⟩
abbrev om (d t:Nat):AO:=⟨some d,.op (.mv (.t t)),none⟩
abbrev ov (i:IOp):AO:=⟨none,.op i,none⟩
abbrev og (d:Nat) (i:IOp) (j t:Nat) (b:Bool):AO:=⟨some d,.op i,some (j,t,b)⟩
abbrev oc (d:Nat) (f:FuncId) (args:List (Bool×X)) (tys:List TypeId):AO:=⟨some d,.call f args tys,none⟩
abbrev X.n (k:Int):X:= .c (.int .i64 k)
abbrev fnK:Type:=Bool×Option Func×Option EC×Nat×List ResultVar×Bool×Bool×Bool
def fnL (P:Program) (f:FuncId) (fn:Func) (N:Nat) (rs:List RV) (vs:List ResultVar) (ic:IC):fnK:=
 (P.follows .mixedOrders,P.funcs[f]?,fn.body.map b1o,fn.ntmps,fn.results.toList,decide ((vs.map rvT).Nodup),ic.ok P N,c3k P N rs vs)
def fnR (fn:Func) (N:Nat) (vs:List ResultVar) (ic:IC):fnK:=(true,some fn,some ic.ec,N,vs,true,true,true)
abbrev fnC (P:Program) (f:FuncId) (N:Nat) (rs:List RV) (ic:IC):Prop:=
 ∀ {G:GG} {pre:List AV} {res:AV} (hsz:decide (pre.length<=N)=true) (hw:AW P G N ic (e6v rs res) (St.init pre)),ACalls P G f pre res
abbrev fnX (P:Program) (f:FuncId) (N:Nat) (rs:List RV) (vs:List ResultVar) (ic:IC):Prop:=
 ∀ {G:GG} {pre:List AV} {res:AV} {posts:List (Nat×AV)} {pins:List Nat} (hpin:ic.pin pins=true) (hpo:posts.map (·.1)=pins)
  (hpr:pins.all (fun t=> !(vs.map rvT).contains t&&decide (t < pre.length))=true) (hnr:(posts.all fun p=>a0p p.2)=true) (hsz:decide (pre.length<=N)=true) (hw:AW P G N ic (d2b rs res posts) (St.init pre)),ACallsX P G f pre res posts
section
variable {P:Program} {f:FuncId} {N:Nat} {rs:List RV} {ic:IC}
theorem a0s (fn:Func) (vs:List ResultVar) (h:fnL P f fn N rs vs ic=fnR fn N vs ic):fnC P f N rs ic:=by
 intro G pre res hsz hw
 simp only [fnL,fnR,Prod.mk.injEq,Option.map_eq_some_iff,decide_eq_true_eq] at h
 obtain ⟨h1,h2,⟨c,hc,he⟩,h4,h5,h6,h7,h8⟩:=h
 exact ACalls.of_walk h1 h2 hc h4 h5 h6 he h7 h8 (of_decide_eq_true hsz) hw
theorem c9d (fn:Func) {vs:List ResultVar} (h:fnL P f fn N rs vs ic=fnR fn N vs ic):fnX P f N rs vs ic:=by
 intro G pre res posts pins hpin hpo hpr hnr hsz hw
 simp only [fnL,fnR,Prod.mk.injEq,Option.map_eq_some_iff,decide_eq_true_eq] at h
 obtain ⟨h1,h2,⟨c,hc,he⟩,h4,h5,h6,h7,h8⟩:=h
 exact ACallsX.of_walk h1 h2 hc h4 h5 h6 he h7 h8 hpin (of_decide_eq_true hsz) hpo hpr hnr hw
end
end Go.Ideal
end
section
namespace Go.Ideal.Tryz
noncomputable abbrev pg:Program:=Go.Proofs.Tryz.prog
@[go_sem] def order_Sort_r10:List AO:=[om 43 6,
 oo 44 (.load 35 none (.g 0)),
 oo 45 (.build 157 [.lit (.int .i64 0),.lit .nilIface] [(0,0,1,(.t 43)),(1,1,1,(.t 44))]),
 oo 46 (.box 157 2 (.t 45)),
 oo 47 (.mki 153 (.t 46)),
 oo 2 (.asg (.nl 1)),
 oo 3 (.asg (.t 47))]
def a4c:IC:=(.seq (.reg [oo 32 (.bin .lss 3 0 (.t 31) (.t 30) 3)]) (.seq (.cond (.t 32) .skip (.exit 2)) (.seq (.block 3 (.seq (.reg [oo 33 (.iaddr 74 1 (.t 29) (.t 31)),
 oo 34 (.load 3 none (.t 33)),
 oo 9 (.asg (.t 34))]) (.seq (.seq (.reg [om 35 9,
 oo 36 (.bin .lss 3 0 (.t 35) (.n 0) 3),
 om 37 36,
 og 38 (.mv (.t 9)) 2 37 false,
 og 39 (.mv (.t 0)) 2 37 false,
 og 40 (.len 164 false (.t 39)) 2 37 false,
 og 41 (.bin .geq 3 0 (.t 38) (.t 40) 3) 2 37 false,
 oo 42 (.pick (.t 37) (.c (.bool true)) (.t 41))]) (.cond (.t 42) (.seq (.draw order_Sort_r10 [[],[],[0,1],[2],[3],[],[4,5,0,1,2,3,4,5]]) .ret) .skip)) (.seq (.reg [om 48 5,
 om 49 9,
 om 50 5,
 om 51 9,
 oo 52 (.iaddr 164 1 (.t 50) (.t 51)),
 oo 53 (.load 74 none (.t 52)),
 om 54 6,
 oo 55 (.bslice 74 3 1 1 [.lit (.int .i64 0)] [(0,(.t 54))]),
 oo 56 (.app 74 3 1 8 (.t 53) (.t 55)),
 oo 57 (.iaddr 164 1 (.t 48) (.t 49)),
 ov (.store 74 1 (.t 57) (.t 56))]) (.reg [om 58 4,
 om 59 6,
 oo 60 (.iaddr 74 1 (.t 58) (.t 59)),
 oo 61 (.load 3 none (.t 60)),
 oo 62 (.bin .add 3 0 (.t 61) (.n 1) 3),
 oo 63 (.iaddr 74 1 (.t 58) (.t 59)),
 ov (.store 3 1 (.t 63) (.t 62))]))))) (.reg [oo 64 (.bin .add 3 0 (.t 31) (.n 1) 3),
 om 31 64]))))
def a6z:IC:=(.seq (.reg [oo 25 (.bin .lss 3 0 (.t 24) (.t 23) 3)]) (.seq (.cond (.t 25) .skip (.exit 0)) (.seq (.block 1 (.seq (.reg [om 26 24,
 oo 27 (.iaddr 164 1 (.t 22) (.t 24)),
 oo 28 (.load 74 none (.t 27)),
 oo 6 (.asg (.t 26)),
 oo 7 (.asg (.t 28))]) (.seq (.reg [om 29 7,
 oo 30 (.len 74 false (.t 29)),
 oo 31 (.mv (.n 0))]) (.block 2 (.loop a4c))))) (.reg [oo 65 (.bin .add 3 0 (.t 24) (.n 1) 3),
 om 24 65]))))
def a60:IC:=(.seq (.reg [oo 98 (.bin .lss 3 0 (.t 97) (.t 96) 3)]) (.seq (.cond (.t 98) .skip (.exit 8)) (.seq (.block 9 (.seq (.reg [oo 99 (.iaddr 74 1 (.t 95) (.t 97)),
 oo 100 (.load 3 none (.t 99)),
 oo 14 (.asg (.t 100))]) (.reg [om 101 4,
 om 102 14,
 oo 103 (.iaddr 74 1 (.t 101) (.t 102)),
 oo 104 (.load 3 none (.t 103)),
 oo 105 (.bin .sub 3 0 (.t 104) (.n 1) 3),
 oo 106 (.iaddr 74 1 (.t 101) (.t 102)),
 ov (.store 3 1 (.t 106) (.t 105))]))) (.reg [oo 107 (.bin .add 3 0 (.t 97) (.n 1) 3),
 om 97 107]))))
def a4d:IC:=(.seq (.reg [oo 72 (.bin .lss 3 0 (.t 71) (.t 70) 3)]) (.seq (.cond (.t 72) .skip (.exit 6)) (.seq (.block 7 (.seq (.reg [om 73 71,
 oo 12 (.asg (.t 73))]) (.seq (.seq (.reg [om 74 11,
 om 75 12,
 oo 76 (.iaddr 177 1 (.t 74) (.t 75)),
 oo 77 (.load 4 none (.t 76)),
 om 78 77,
 og 79 (.mv (.t 4)) 4 78 false,
 og 80 (.mv (.t 12)) 4 78 false,
 og 81 (.iaddr 74 1 (.t 79) (.t 80)) 4 78 false,
 og 82 (.load 3 none (.t 81)) 4 78 false,
 og 83 (.bin .gtr 3 0 (.t 82) (.n 0) 3) 4 78 false,
 oo 84 (.pick (.t 78) (.c (.bool true)) (.t 83))]) (.cond (.t 84) (.exit 7) .skip)) (.seq (.reg [om 85 11,
 om 86 12,
 oo 87 (.iaddr 177 1 (.t 85) (.t 86)),
 ov (.store 4 1 (.t 87) (.c (.bool true)))]) (.seq (.reg [om 88 10,
 om 89 12,
 oo 90 (.bslice 74 3 1 1 [.lit (.int .i64 0)] [(0,(.t 89))]),
 oo 91 (.app 74 3 1 8 (.t 88) (.t 90)),
 oo 10 (.asg (.t 91))]) (.seq (.seq (.reg [om 92 5,
 om 93 12,
 oo 94 (.iaddr 164 1 (.t 92) (.t 93)),
 oo 95 (.load 74 none (.t 94)),
 oo 96 (.len 74 false (.t 95)),
 oo 97 (.mv (.n 0))]) (.block 8 (.loop a60))) (.exit 5))))))) (.reg [oo 108 (.bin .add 3 0 (.t 71) (.n 1) 3),
 om 71 108]))))
def a9l:IC:=(.block 5 (.seq (.seq (.reg [om 69 4,
 oo 70 (.len 74 false (.t 69)),
 oo 71 (.mv (.n 0))]) (.block 6 (.loop a4d))) (.exit 4)))
def b5s:IC:=(.seq (.reg [oo 2 (.asg (.nl 1)),
 oo 3 (.asg (.c .nilIface))]) (.scope (.seq (.reg [om 16 0,
 oo 17 (.len 164 false (.t 16)),
 oo 18 (.mks 74 3 1 8 [.lit (.int .i64 0)] (.t 17) (.t 17)),
 oo 4 (.asg (.t 18))]) (.seq (.reg [om 19 0,
 oo 20 (.len 164 false (.t 19)),
 oo 21 (.mks 164 74 1 24 [.own 1 0 []] (.t 20) (.t 20)),
 oo 5 (.asg (.t 21))]) (.seq (.seq (.reg [om 22 0,
 oo 23 (.len 164 false (.t 22)),
 oo 24 (.mv (.n 0))]) (.block 0 (.loop a6z))) (.seq (.reg [oo 10 (.asg (.nl 1))]) (.seq (.reg [om 66 0,
 oo 67 (.len 164 false (.t 66)),
 oo 68 (.mks 177 4 1 1 [.lit (.bool false)] (.t 67) (.t 67)),
 oo 11 (.asg (.t 68))]) (.seq (.label 0) (.seq (.block 4 (.loop a9l)) (.seq (.seq (.reg [om 109 11,
 oc 110 151 [(false,(.t 109)),(false,(.c (.bool false)))] [177,4],
 oo 15 (.asg (.t 110))]) (.seq (.reg [om 111 15,
 oo 112 (.bin .geq 3 0 (.t 111) (.n 0) 3)]) (.cond (.t 112) (.seq (.draw [om 113 15,
 oo 114 (.load 35 none (.g 10)),
 oo 115 (.build 157 [.lit (.int .i64 0),.lit .nilIface] [(0,0,1,(.t 113)),(1,1,1,(.t 114))]),
 oo 116 (.box 157 2 (.t 115)),
 oo 117 (.mki 153 (.t 116)),
 oo 2 (.asg (.nl 1)),
 oo 3 (.asg (.t 117))] [[],[],[0,1],[2],[3],[],[4,5,0,1,2,3,4,5]]) .ret) .skip))) (.seq (.reg [om 118 10,
 oo 2 (.asg (.t 118)),
 oo 3 (.asg (.c .nilIface))]) .ret)))))))))))
abbrev c1k:Nat:=112
theorem b7v:fnC pg 112 119 [(.tmp 2),(.tmp 3)] b5s:=a0s Go.Proofs.Tryz.f112 [(.tmp 2),(.tmp 3)] (by kernel_rfl)
def a2a:IC:=(.seq (.seq (.reg [om 19 5,
 om 20 0,
 om 21 4,
 oo 22 (.iaddr 164 1 (.t 20) (.t 21)),
 oo 23 (.load 74 none (.t 22)),
 oo 24 (.len 74 false (.t 23)),
 oo 25 (.bin .lss 3 0 (.t 19) (.t 24) 3)]) (.cond (.t 25) .skip (.exit 2))) (.seq (.block 3 (.seq (.reg [om 28 0,
 om 29 4,
 oo 30 (.iaddr 164 1 (.t 28) (.t 29)),
 oo 31 (.load 74 none (.t 30)),
 om 32 5,
 oo 33 (.iaddr 74 1 (.t 31) (.t 32)),
 oo 34 (.load 3 none (.t 33)),
 oo 35 (.bin .lss 3 0 (.t 34) (.n 0) 3),
 om 36 35,
 og 37 (.mv (.t 0)) 8 36 false,
 og 38 (.mv (.t 4)) 8 36 false,
 og 39 (.iaddr 164 1 (.t 37) (.t 38)) 8 36 false,
 og 40 (.load 74 none (.t 39)) 8 36 false,
 og 41 (.mv (.t 5)) 8 36 false,
 og 42 (.iaddr 74 1 (.t 40) (.t 41)) 8 36 false,
 og 43 (.load 3 none (.t 42)) 8 36 false,
 og 44 (.mv (.t 0)) 8 36 false,
 og 45 (.len 164 false (.t 44)) 8 36 false,
 og 46 (.bin .geq 3 0 (.t 43) (.t 45) 3) 8 36 false,
 oo 47 (.pick (.t 36) (.c (.bool true)) (.t 46))]) (.cond (.t 47) (.seq (.reg [om 48 4,
 oc 49 35 [(false,(.n 107)),(false,(.t 48))] [3,3],
 oo 2 (.asg (.nl 1)),
 ov (.store 31 3 (.t 3) (.t 49))]) .ret) .skip))) (.reg [om 26 5,
 oo 27 (.bin .add 3 0 (.t 26) (.n 1) 3),
 oo 5 (.asg (.t 27))])))
def a3u:IC:=(.seq (.seq (.reg [om 13 4,
 om 14 0,
 oo 15 (.len 164 false (.t 14)),
 oo 16 (.bin .lss 3 0 (.t 13) (.t 15) 3)]) (.cond (.t 16) .skip (.exit 0))) (.seq (.block 1 (.seq (.reg [oo 5 (.asg (.n 0))]) (.block 2 (.loop a2a)))) (.reg [om 17 4,
 oo 18 (.bin .add 3 0 (.t 17) (.n 1) 3),
 oo 4 (.asg (.t 18))])))
def a2b:IC:=(.seq (.seq (.reg [om 75 12,
 om 76 0,
 om 77 10,
 oo 78 (.iaddr 164 1 (.t 76) (.t 77)),
 oo 79 (.load 74 none (.t 78)),
 oo 80 (.len 74 false (.t 79)),
 oo 81 (.bin .lss 3 0 (.t 75) (.t 80) 3)]) (.cond (.t 81) .skip (.exit 8))) (.seq (.block 9 (.reg [om 84 11,
 om 85 84,
 og 86 (.mv (.t 6)) 1 85 true,
 og 87 (.mv (.t 0)) 1 85 true,
 og 88 (.mv (.t 10)) 1 85 true,
 og 89 (.iaddr 164 1 (.t 87) (.t 88)) 1 85 true,
 og 90 (.load 74 none (.t 89)) 1 85 true,
 og 91 (.mv (.t 12)) 1 85 true,
 og 92 (.iaddr 74 1 (.t 90) (.t 91)) 1 85 true,
 og 93 (.load 3 none (.t 92)) 1 85 true,
 og 94 (.iaddr 177 1 (.t 86) (.t 93)) 1 85 true,
 og 95 (.load 4 none (.t 94)) 1 85 true,
 oo 96 (.pick (.t 85) (.t 95) (.c (.bool false))),
 oo 11 (.asg (.t 96))])) (.reg [om 82 12,
 oo 83 (.bin .add 3 0 (.t 82) (.n 1) 3),
 oo 12 (.asg (.t 83))])))
@[go_sem] def lodgeref17_Sort_r25:List AO:=[om 97 11]
@[go_sem] def lodgeref17_Sort_r26:List AO:=[om 98 10,
 oo 8 (.asg (.t 98))]
@[go_sem] def lodgeref17_Sort_r16:List AO:=[om 66 10,
 oo 67 (.bin .add 3 0 (.t 66) (.n 1) 3),
 oo 10 (.asg (.t 67))]
def a1v:IC:=(.seq (.seq (.reg [om 58 10,
 om 59 0,
 oo 60 (.len 164 false (.t 59)),
 oo 61 (.bin .lss 3 0 (.t 58) (.t 60) 3),
 om 62 61,
 og 63 (.mv (.t 8)) 4 62 true,
 og 64 (.bin .lss 3 0 (.t 63) (.n 0) 3) 4 62 true,
 oo 65 (.pick (.t 62) (.t 64) (.c (.bool false)))]) (.cond (.t 65) .skip (.exit 6))) (.seq (.block 7 (.seq (.seq (.reg [om 68 6,
 om 69 10,
 oo 70 (.iaddr 177 1 (.t 68) (.t 69)),
 oo 71 (.load 4 none (.t 70))]) (.cond (.t 71) (.exit 7) .skip)) (.seq (.seq (.reg [om 72 9,
 oo 73 (.bin .lss 3 0 (.t 72) (.n 0) 3)]) (.cond (.t 73) (.reg [om 74 10,
 oo 9 (.asg (.t 74))]) .skip)) (.seq (.reg [oo 11 (.asg (.c (.bool true)))]) (.seq (.seq (.reg [oo 12 (.asg (.n 0))]) (.block 8 (.loop a2b))) (.seq (.reg lodgeref17_Sort_r25) (.cond (.t 97) (.reg lodgeref17_Sort_r26) .skip))))))) (.reg lodgeref17_Sort_r16)))
def a3v:IC:=(.seq (.seq (.reg [om 53 7,
 oo 54 (.len 74 false (.t 53)),
 om 55 0,
 oo 56 (.len 164 false (.t 55)),
 oo 57 (.bin .lss 3 0 (.t 54) (.t 56) 3)]) (.cond (.t 57) .skip (.exit 4))) (.block 5 (.seq (.reg [oo 8 (.asg (.n (-1)))]) (.seq (.reg [oo 9 (.asg (.n (-1)))]) (.seq (.seq (.reg [oo 10 (.asg (.n 0))]) (.block 6 (.loop a1v))) (.seq (.seq (.reg [om 99 8,
 oo 100 (.bin .lss 3 0 (.t 99) (.n 0) 3)]) (.cond (.t 100) (.seq (.reg [om 101 9,
 oc 102 35 [(false,(.n 111)),(false,(.t 101))] [3,3],
 oo 2 (.asg (.nl 1)),
 ov (.store 31 3 (.t 3) (.t 102))]) .ret) .skip)) (.seq (.reg [om 103 6,
 om 104 8,
 oo 105 (.iaddr 177 1 (.t 103) (.t 104)),
 ov (.store 4 1 (.t 105) (.c (.bool true)))]) (.reg [om 106 7,
 om 107 8,
 oo 108 (.bslice 74 3 1 1 [.lit (.int .i64 0)] [(0,(.t 107))]),
 oo 109 (.app 74 3 1 8 (.t 106) (.t 108)),
 oo 7 (.asg (.t 109))]))))))))
def a8s:IC:=(.seq (.reg [oo 2 (.asg (.nl 1)),
 oo 3 (.alloc 31 [.lit (.int .i64 0),.lit (.bool false),.lit (.int .i64 0)])]) (.seq (.seq (.reg [oo 4 (.asg (.n 0))]) (.block 0 (.loop a3u))) (.seq (.reg [om 50 0,
 oo 51 (.len 164 false (.t 50)),
 oo 52 (.mks 177 4 1 1 [.lit (.bool false)] (.t 51) (.t 51)),
 oo 6 (.asg (.t 52))]) (.seq (.reg [oo 7 (.asg (.nl 1))]) (.seq (.block 4 (.loop a3v)) (.seq (.reg [om 110 7,
 oc 111 43 [] [],
 oo 2 (.asg (.t 110)),
 ov (.store 31 3 (.t 3) (.t 111))]) .ret))))))
abbrev b4l:Nat:=118
theorem b1q:fnC pg 118 112 [(.tmp 2),(.cells 3 3)] a8s:=a0s Go.Proofs.Tryz.f118 [(.tmp 2),(.cell 3 31)] (by kernel_rfl)
def a4f:IC:=(.seq (.seq (.reg [om 12 5,
 om 13 0,
 oo 14 (.len 74 false (.t 13)),
 oo 15 (.bin .lss 3 0 (.t 12) (.t 14) 3)]) (.cond (.t 15) .skip (.exit 0))) (.seq (.block 1 (.seq (.draw [om 18 0,
 om 19 5,
 oo 20 (.iaddr 74 1 (.t 18) (.t 19)),
 oo 21 (.load 3 none (.t 20)),
 om 22 1,
 om 23 5,
 oo 24 (.iaddr 74 1 (.t 22) (.t 23)),
 oo 25 (.load 3 none (.t 24)),
 oo 26 (.bin .eql 3 0 (.t 21) (.t 25) 3),
 oo 6 (.asg (.t 26))] [[],[],[0,1],[2],[],[],[4,5],[6],[3,7],[8,0,1,2,3,4,5,6,7,8]]) (.seq (.reg [om 27 6,
 oo 28 (.un .not 4 (.t 27))]) (.cond (.t 28) (.seq (.reg [oo 4 (.asg (.c (.bool false)))]) .ret) .skip)))) (.reg [om 16 5,
 oo 17 (.bin .add 3 0 (.t 16) (.n 1) 3),
 oo 5 (.asg (.t 17))])))
def a4y:IC:=(.seq (.reg [oo 4 (.asg (.c (.bool false)))]) (.seq (.seq (.reg [om 7 0,
 oo 8 (.len 74 false (.t 7)),
 om 9 1,
 oo 10 (.len 74 false (.t 9)),
 oo 11 (.bin .neq 3 0 (.t 8) (.t 10) 3)]) (.cond (.t 11) (.seq (.reg [oo 4 (.asg (.c (.bool false)))]) .ret) .skip)) (.seq (.seq (.reg [oo 5 (.asg (.n 0))]) (.block 0 (.loop a4f))) (.seq (.reg [oo 4 (.asg (.c (.bool true)))]) .ret))))
abbrev b2h:Nat:=78
theorem a95:fnC pg 78 29 [(.tmp 4)] a4y:=a0s Go.Proofs.Tryz.f78 [(.tmp 4)] (by kernel_rfl)
def b01:IC:=(.seq (.reg [oo 3 (.box 31 3 (.t 1)),
 oo 4 (.asg (.c (.bool false)))]) (.seq (.draw [om 5 0,
 oc 6 57 [(false,(.t 5))] [35],
 oo 7 (.load 31 (some 3) (.t 3)),
 oc 8 56 [(false,(.t 6)),(false,(.t 7))] [31,31],
 oo 4 (.asg (.t 8))] [[],[0],[],[1,2,1],[3,3,0,1,2,3]]) .ret))
abbrev b0g:Nat:=18
theorem b3t:fnC pg 18 9 [(.tmp 4)] b01:=a0s Go.Proofs.Tryz.f18 [(.tmp 4)] (by kernel_rfl)
def a8z:IC:=(.seq (.reg [oo 4 (.alloc 31 [.lit (.int .i64 0),.lit (.bool false),.lit (.int .i64 0)])]) (.seq (.seq (.reg [om 5 0,
 oo 6 (.bin .eql 3 0 (.t 5) (.n 0) 3)]) (.cond (.t 6) (.seq (.reg [oc 7 43 [] [],
 ov (.store 31 3 (.t 4) (.t 7))]) .ret) .skip)) (.seq (.reg [om 8 0,
 om 9 1,
 oo 10 (.build 31 [.lit (.int .i64 0),.lit (.bool false),.lit (.int .i64 0)] [(0,0,1,(.t 8)),(1,1,1,(.c (.bool true))),(2,2,1,(.t 9))]),
 ov (.store 31 3 (.t 4) (.t 10))]) .ret)))
abbrev a8e:Nat:=35
theorem b1w:fnC pg 35 11 [(.cells 4 3)] a8z:=a0s Go.Proofs.Tryz.f35 [(.cell 4 31)] (by kernel_rfl)
def a23:IC:=(.seq (.reg [oo 9 (.bin .lss 3 0 (.t 8) (.t 7) 3)]) (.seq (.cond (.t 9) .skip (.exit 0)) (.seq (.block 1 (.seq (.reg [om 10 8,
 oo 5 (.asg (.t 10))]) (.seq (.reg [om 11 1,
 om 12 0,
 om 13 5,
 oo 14 (.iaddr 177 1 (.t 12) (.t 13)),
 oo 15 (.load 4 none (.t 14)),
 oo 16 (.bin .eql 4 1 (.t 11) (.t 15) 4)]) (.cond (.t 16) (.seq (.reg [om 17 5,
 oo 4 (.asg (.t 17))]) .ret) .skip)))) (.reg [oo 18 (.bin .add 3 0 (.t 8) (.n 1) 3),
 om 8 18]))))
def a7l:IC:=(.seq (.reg [oo 4 (.asg (.n 0))]) (.seq (.seq (.reg [om 6 0,
 oo 7 (.len 177 false (.t 6)),
 oo 8 (.mv (.n 0))]) (.block 0 (.loop a23))) (.seq (.reg [oo 4 (.asg (.n (-1)))]) .ret)))
abbrev b2l:Nat:=151
theorem a98:fnC pg 151 19 [(.tmp 4)] a7l:=a0s Go.Proofs.Tryz.f151 [(.tmp 4)] (by kernel_rfl)
def b00:IC:=(.seq (.reg [oo 0 (.alloc 31 [.lit (.int .i64 0),.lit (.bool false),.lit (.int .i64 0)])]) (.seq (.reg [oo 1 (.build 31 [.lit (.int .i64 0),.lit (.bool false),.lit (.int .i64 0)] []),
 ov (.store 31 3 (.t 0) (.t 1))]) .ret))
abbrev b6u:Nat:=43
theorem b3s:fnC pg 43 2 [(.cells 0 3)] b00:=a0s Go.Proofs.Tryz.f43 [(.cell 0 31)] (by kernel_rfl)
def a6q:IC:=(.seq (.reg [oo 2 (.box 31 3 (.t 0)),
 oo 3 (.box 31 3 (.t 1)),
 oo 4 (.asg (.c (.bool false)))]) (.seq (.reg [oo 5 (.faddr 31 0 (.t 2) 0),
 oo 6 (.load 3 none (.t 5)),
 oo 7 (.faddr 31 0 (.t 3) 0),
 oo 8 (.load 3 none (.t 7)),
 oo 9 (.bin .eql 3 0 (.t 6) (.t 8) 3),
 om 10 9,
 og 11 (.faddr 31 1 (.t 2) 1) 5 10 true,
 og 12 (.load 4 none (.t 11)) 5 10 true,
 og 13 (.faddr 31 1 (.t 3) 1) 5 10 true,
 og 14 (.load 4 none (.t 13)) 5 10 true,
 og 15 (.bin .eql 4 1 (.t 12) (.t 14) 4) 5 10 true,
 oo 16 (.pick (.t 10) (.t 15) (.c (.bool false))),
 om 17 16,
 og 18 (.faddr 31 2 (.t 2) 2) 12 17 true,
 og 19 (.load 3 none (.t 18)) 12 17 true,
 og 20 (.faddr 31 2 (.t 3) 2) 12 17 true,
 og 21 (.load 3 none (.t 20)) 12 17 true,
 og 22 (.bin .eql 3 0 (.t 19) (.t 21) 3) 12 17 true,
 oo 23 (.pick (.t 17) (.t 22) (.c (.bool false))),
 oo 4 (.asg (.t 23))]) .ret))
abbrev b1m:Nat:=56
theorem a9e:fnC pg 56 24 [(.tmp 4)] a6q:=a0s Go.Proofs.Tryz.f56 [(.tmp 4)] (by kernel_rfl)
def a4t:IC:=(.seq (.reg [oo 2 (.alloc 31 [.lit (.int .i64 0),.lit (.bool false),.lit (.int .i64 0)])]) (.seq (.seq (.reg [om 5 0,
 oo 6 (.bin .eql 35 2 (.t 5) (.c .nilIface) 35)]) (.cond (.t 6) (.seq (.reg [oc 7 43 [] [],
 ov (.store 31 3 (.t 2) (.t 7))]) .ret) .skip)) (.seq (.reg [om 9 0,
 oo 10 (.tas (.t 9) 35 153 [.lit (.pointer none)]),
 om 8 10,
 oo 11 (.ext (.t 8) 0),
 oo 12 (.ext (.t 8) 1),
 oo 3 (.asg (.t 11)),
 oo 4 (.asg (.t 12))]) (.seq (.seq (.reg [om 13 4,
 oo 14 (.un .not 4 (.t 13))]) (.cond (.t 14) (.seq (.reg [om 15 0,
 oc 16 104 [(false,(.t 15))] [35],
 oc 17 38 [(false,(.t 16))] [3],
 ov (.store 31 3 (.t 2) (.t 17))]) .ret) .skip)) (.seq (.seq (.reg [om 18 3,
 oo 19 (.bin .eql 153 3 (.t 18) (.c (.pointer none)) 153),
 om 20 19,
 og 21 (.mv (.t 3)) 2 20 false,
 og 22 (.nilck (.t 21)) 2 20 false,
 og 23 (.faddr 157 1 (.t 22) 1) 2 20 false,
 og 24 (.load 35 none (.t 23)) 2 20 false,
 og 25 (.bin .eql 35 2 (.t 24) (.c .nilIface) 35) 2 20 false,
 oo 26 (.pick (.t 20) (.c (.bool true)) (.t 25))]) (.cond (.t 26) (.seq (.reg [oc 27 38 [(false,(.n (-1)))] [3],
 ov (.store 31 3 (.t 2) (.t 27))]) .ret) .skip)) (.seq (.draw [om 28 3,
 oo 29 (.nilck (.t 28)),
 oo 30 (.faddr 157 1 (.t 29) 1),
 oo 31 (.load 35 none (.t 30)),
 oc 32 104 [(false,(.t 31))] [35],
 om 33 3,
 oo 34 (.nilck (.t 33)),
 oo 35 (.faddr 157 0 (.t 34) 0),
 oo 36 (.load 3 none (.t 35)),
 oc 37 35 [(false,(.t 32)),(false,(.t 36))] [3,3],
 ov (.store 31 3 (.t 2) (.t 37))] [[],[0],[1],[2],[3],[],[5],[6],[7],[4,8,4],[9,9,0,1,2,3,4,5,6,7,8,9]]) .ret))))))
abbrev b57:Nat:=57
theorem b2y:fnC pg 57 38 [(.cells 2 3)] a4t:=a0s Go.Proofs.Tryz.f57 [(.cell 2 31)] (by kernel_rfl)
def b0x:IC:=(.seq (.reg [oo 2 (.alloc 31 [.lit (.int .i64 0),.lit (.bool false),.lit (.int .i64 0)])]) (.seq (.reg [om 3 0,
 oo 4 (.build 31 [.lit (.int .i64 0),.lit (.bool false),.lit (.int .i64 0)] [(0,0,1,(.t 3))]),
 ov (.store 31 3 (.t 2) (.t 4))]) .ret))
abbrev b6t:Nat:=38
theorem b3p:fnC pg 38 5 [(.cells 2 3)] b0x:=a0s Go.Proofs.Tryz.f38 [(.cell 2 31)] (by kernel_rfl)
def a4g:IC:=(.seq (.seq (.reg [om 6 4,
 om 7 3,
 oo 8 (.len 190 false (.t 7)),
 oo 9 (.bin .lss 3 0 (.t 6) (.t 8) 3)]) (.cond (.t 9) .skip (.exit 0))) (.seq (.block 1 (.seq (.reg [om 12 0,
 om 13 3,
 om 14 4,
 oo 15 (.iaddr 190 1 (.t 13) (.t 14)),
 oo 16 (.load 35 none (.t 15)),
 oc 17 145 [(false,(.t 12)),(false,(.t 16))] [35,35]]) (.cond (.t 17) (.seq (.reg [om 18 4,
 oo 19 (.bin .add 3 0 (.n 101) (.t 18) 3),
 oo 2 (.asg (.t 19))]) .ret) .skip))) (.reg [om 10 4,
 oo 11 (.bin .add 3 0 (.t 10) (.n 1) 3),
 oo 4 (.asg (.t 11))])))
def a7f:IC:=(.seq (.reg [oo 2 (.asg (.n 0))]) (.seq (.reg [oc 5 144 [] [],
 oo 3 (.asg (.t 5))]) (.seq (.seq (.reg [oo 4 (.asg (.n 0))]) (.block 0 (.loop a4g))) (.seq (.reg [oo 2 (.asg (.n (-1)))]) .ret))))
abbrev b2i:Nat:=104
theorem a96:fnC pg 104 20 [(.tmp 2)] a7f:=a0s Go.Proofs.Tryz.f104 [(.tmp 2)] (by kernel_rfl)
def a6r:IC:=(.seq (.reg [oo 0 (.asg (.nl 1))]) (.seq (.reg [oo 1 (.load 35 none (.g 6)),
 oo 2 (.load 35 none (.g 3)),
 oo 3 (.load 35 none (.g 2)),
 oo 4 (.load 35 none (.g 5)),
 oo 5 (.load 35 none (.g 11)),
 oo 6 (.load 35 none (.g 1)),
 oo 7 (.load 35 none (.g 0)),
 oo 8 (.load 35 none (.g 8)),
 oo 9 (.load 35 none (.g 4)),
 oo 10 (.load 35 none (.g 7)),
 oo 11 (.load 35 none (.g 10)),
 oo 12 (.load 35 none (.g 12)),
 oo 13 (.load 35 none (.g 13)),
 oo 14 (.load 35 none (.g 14)),
 oo 15 (.load 35 none (.g 15)),
 oo 16 (.load 35 none (.g 16)),
 oo 17 (.load 35 none (.g 17)),
 oo 18 (.load 35 none (.g 18)),
 oo 19 (.load 35 none (.g 19)),
 oo 20 (.load 35 none (.g 20)),
 oo 21 (.load 35 none (.g 21)),
 oo 22 (.bslice 190 35 1 21 [.lit .nilIface] [(0,(.t 1)),(1,(.t 2)),(2,(.t 3)),(3,(.t 4)),(4,(.t 5)),(5,(.t 6)),(6,(.t 7)),(7,(.t 8)),(8,(.t 9)),(9,(.t 10)),(10,(.t 11)),(11,(.t 12)),(12,(.t 13)),(13,(.t 14)),(14,(.t 15)),(15,(.t 16)),(16,(.t 17)),(17,(.t 18)),(18,(.t 19)),(19,(.t 20)),(20,(.t 21))]),
 oo 0 (.asg (.t 22))]) .ret))
abbrev b1n:Nat:=144
theorem a9f:fnC pg 144 23 [(.tmp 0)] a6r:=a0s Go.Proofs.Tryz.f144 [(.tmp 0)] (by kernel_rfl)
def a9z:IC:=(.seq (.reg [oo 4 (.asg (.c (.bool false)))]) (.seq (.seq (.reg [om 5 0,
 oo 6 (.bin .eql 35 2 (.t 5) (.c .nilIface) 35),
 om 7 6,
 og 8 (.mv (.t 1)) 2 7 false,
 og 9 (.bin .eql 35 2 (.t 8) (.c .nilIface) 35) 2 7 false,
 oo 10 (.pick (.t 7) (.c (.bool true)) (.t 9))]) (.cond (.t 10) (.seq (.reg [om 11 0,
 oo 12 (.bin .eql 35 2 (.t 11) (.c .nilIface) 35),
 om 13 12,
 og 14 (.mv (.t 1)) 2 13 true,
 og 15 (.bin .eql 35 2 (.t 14) (.c .nilIface) 35) 2 13 true,
 oo 16 (.pick (.t 13) (.t 15) (.c (.bool false))),
 oo 4 (.asg (.t 16))]) .ret) .skip)) (.seq (.reg [om 17 0,
 om 18 1,
 oo 19 (.eqs .eql 35 230 252 (.t 17) (.t 18) 35),
 oo 4 (.asg (.t 19))]) .ret)))
abbrev b56:Nat:=145
theorem b2x:fnC pg 145 20 [(.tmp 4)] a9z:=a0s Go.Proofs.Tryz.f145 [(.tmp 4)] (by kernel_rfl)
abbrev li (n:Int):AV:= .lit (.int .i64 n)
abbrev lb (b:Bool):AV:= .lit (.bool b)
abbrev c2e (k:Int) (p:Bool) (n:Int):AV:= .agg [li k,lb p,li n]
theorem b7r (G:GG):ACalls pg G b6u [] (c2e 0 false 0):=by
 refine b3s rfl ?_
 simp (disch:=omega) [go_sem,b00]
theorem e5g (G:GG) (a b c d:Int) (e f:Bool):ACalls pg G b1m [c2e a e b,c2e c f d] (lb (decide (a=c/\e=f/\b=d))):=by
 refine a9e rfl ?_
 simp (disch:=omega) [go_sem,a6q]
 refine c2k ?_ ?_<;>intro h<;>simp at h<;>simp (disch:=omega) [go_sem,h]
 refine c2k ?_ ?_<;>intro h2<;>simp at h2<;>simp (disch:=omega) [go_sem,h,h2]
theorem b1i (G:GG) (k n:Int):ACalls pg G a8e [li k,li n] (if k=0 then c2e 0 false 0 else c2e k true n):=by
 refine b1w rfl ?_
 by_cases h:k=0<;>simp (disch:=omega) [go_sem,a8z,h]
 refine a0c (b7r G) rfl rfl ?_
 simp (disch:=omega) [go_sem]
@[go_sem] abbrev c8k:Nat:=230
@[go_sem] abbrev f3b:Nat:=153
def cn (g:Nat):Nat:=[0,7,5,3,9,2,6,10,8,99,1,4,11,12,13,14,15,16,17,18,19,20].getD g g
def gn (g:Nat):Nat:=[0,10,5,3,11,2,6,1,8,4,7,12,13,14,15,16,17,18,19,20,21].getD g g
@[go_sem] theorem f6p:cn 0=0:=(rfl)
@[go_sem] theorem f6q:cn 1=7:=(rfl)
@[go_sem] theorem f6r:cn 2=5:=(rfl)
@[go_sem] theorem f6s:cn 3=3:=(rfl)
@[go_sem] theorem f6t:cn 4=9:=(rfl)
@[go_sem] theorem f6u:cn 5=2:=(rfl)
@[go_sem] theorem f6v:cn 6=6:=(rfl)
@[go_sem] theorem f6w:cn 7=10:=(rfl)
@[go_sem] theorem f6x:cn 8=8:=(rfl)
@[go_sem] theorem f5p:cn 10=1:=(rfl)
@[go_sem] theorem f5q:cn 11=4:=(rfl)
@[go_sem] theorem f5r:cn 12=11:=(rfl)
@[go_sem] theorem f5s:cn 13=12:=(rfl)
@[go_sem] theorem f5t:cn 14=13:=(rfl)
@[go_sem] theorem f5u:cn 15=14:=(rfl)
@[go_sem] theorem f5v:cn 16=15:=(rfl)
@[go_sem] theorem f5w:cn 17=16:=(rfl)
@[go_sem] theorem f5x:cn 18=17:=(rfl)
@[go_sem] theorem f5y:cn 19=18:=(rfl)
@[go_sem] theorem f5z:cn 20=19:=(rfl)
@[go_sem] theorem f50:cn 21=20:=(rfl)
structure Sent (G:GG) (bk:Nat->Nat×Nat):Prop where
 val:∀ g,g < 22/\g≠9->G g=some (.iface c8k (.pointer (some ⟨(bk (cn g)).1,(bk (cn g)).2,none⟩)))
 blk:∀ g,g < 21->(G (bk g).1).isSome=true
 inj:∀ g h,g < 21->h < 21->bk g=bk h->g=h
structure Sent3 (G:GG) (bk:Nat->Nat×Nat):Prop where
 val:∀ g,g=3\/g=5\/g=6->G g=some (.iface c8k (.pointer (some ⟨(bk (cn g)).1,(bk (cn g)).2,none⟩)))
structure SentO (G:GG) (bk:Nat->Nat×Nat):Prop where
 val:∀ g,g=0\/g=1\/g=2\/g=3\/g=5\/g=6\/g=10->G g=some (.iface c8k (.pointer (some ⟨(bk (cn g)).1,(bk (cn g)).2,none⟩)))
theorem Sent.o {G:GG} {bk:Nat->Nat×Nat} (h:Sent G bk):SentO G bk:=⟨fun g hg=>h.val g (by omega)⟩
theorem SentO.three {G:GG} {bk:Nat->Nat×Nat} (h:SentO G bk):Sent3 G bk:=⟨fun g hg=>h.val g (by omega)⟩
instance {G:GG} {bk:Nat->Nat×Nat}:Coe (Sent G bk) (SentO G bk):=⟨Sent.o⟩
@[go_sem] abbrev sv (bk:Nat->Nat×Nat) (g:Nat):AV:= .lit (.iface c8k (.pointer (some ⟨(bk g).1,(bk g).2,none⟩)))
def a29:List Nat:=[6,3,5,2,4,7,0,8,9,10,1,11,12,13,14,15,16,17,18,19,20]
theorem c3m (G:GG) (bk:Nat->Nat×Nat) (hS:Sent G bk):ACalls pg G b1n [] (.own 1 21 (a29.map (sv bk))):=by
 refine a9f rfl ?_
 simp (disch:=omega) [go_sem,a6r,hS.val]
 rfl
abbrev slB (xs:List Bool):AV:= .sl xs.length (xs.map lb)
abbrev slI (xs:List Int):AV:= .sl xs.length (xs.map li)
abbrev owI (xs:List Int):AV:= .own 1 xs.length (xs.map li)
abbrev owB (xs:List Bool):AV:= .own 1 xs.length (xs.map lb)
abbrev a6t (xs:List (List Int)):AV:= .sl xs.length (xs.map slI)
abbrev b8k (xs:List (List Int)):AV:= .own 1 xs.length (xs.map owI)
attribute [go_sem] slB slI owI owB a6t b8k
@[go_sem] theorem a28 (xs:List Int):a18 (xs.map li)=true:=c7r fun x=>by simp only [a1l]
def a3r (v:Bool):List Bool->Nat->Int
 | [],_=> -1
 | x::xs,i=>if v=x then i else a3r v xs (i+1)
theorem c4t {v:Bool} {bs:List Bool} {i k:Nat} (h:i < bs.length):a3r v (bs.drop i) k=if v=bs[i] then (k:Int) else a3r v (bs.drop (i+1)) (k+1):=by
 rw [List.drop_eq_getElem_cons h]; rfl
theorem d6i (G:GG) (bs:List Bool) (v:Bool) (hlen:bs.length < 2 ^ 62):ACalls pg G b2l [slB bs,lb v] (li (a3r v bs 0)):=by
 refine a98 rfl ?_
 simp (disch:=omega) [go_sem,a7l]
 refine a0u Nat (fun i st=>st.s 0=slB bs/\st.s 1=lb v/\st.s 7=li bs.length/\st.s 8=li i/\i<=bs.length/\a3r v (bs.drop i) i=a3r v bs 0) (fun i=>bs.length - i) 0 ?_ ?_
 ·simp (disch:=omega) [go_sem]
 ·rintro i st K ⟨h0,h1,h7,h8,hi,hno⟩ hK
  by_cases hlt:i < bs.length
  ·rw [c4t hlt] at hno
   by_cases hv:v=bs[i]
   ·rw [if_pos hv] at hno
    simp (disch:=omega) [go_sem,a23,h0,h1,h7,h8,hlt,<-hno,hv]
    rw [<-hv]; exact hno
   ·rw [if_neg hv] at hno
    simp (disch:=omega) [go_sem,a23,h0,h1,h7,h8,hlt,hv]
    exact hK (i+1) _ ⟨by simp [h0],by simp [h1],by simp [h7],by simp,by omega,hno⟩ (by omega)
  ·rw [List.drop_eq_nil_of_le (by omega)] at hno
   simp (disch:=omega) [go_sem,a23,h0,h1,h7,h8,hlt,<-hno,a3r]
inductive Er where
 | nil
 | s (g:Nat)
 | at (p:Int) (e:Er)
def a05 (bk:Nat->Nat×Nat):Er->AV
 | .nil=> .lit .nilIface
 | .s g=>sv bk g
 | .at p e=> .ifc f3b (.ip [li p,a05 bk e] 0)
abbrev wr (n:Int):Int:=IntKind.i64.wrap n
def a1w (n i:Nat):List Int->List (List Int)->List Int->Option (List (List Int)×List Int)
 | [],u,l=>some (u,l)
 | k::ks,u,l=>if k < 0\/(n:Int)<=k then none else a1w n i ks (u.set k.toNat (u[k.toNat]! ++[(i:Int)])) (l.set i (wr (l[i]! +1)))
def a80 (n:Nat):List (List Int)->Nat->List (List Int)->List Int->Except Nat (List (List Int)×List Int)
 | [],_,u,l=> .ok (u,l)
 | r::rs,i,u,l=>match a1w n i r u l with
  | none=> .error i
  | some p=>a80 n rs (i+1) p.1 p.2
def inB (n:Nat) (u:List (List Int)):Prop:=∀ r∈u,∀ k∈r,0<=k/\k < (n:Int)
theorem c9k {n:Nat} {u:List (List Int)} {k:Nat} {r:List Int} (h:inB n u) (hr:∀ k∈r,0<=k/\k < (n:Int)):inB n (u.set k r):=by
 intro x hx
 rcases List.mem_or_eq_of_mem_set hx with hx | rfl
 ·exact h x hx
 ·exact hr
section
variable {G:GG} {bk:Nat->Nat×Nat} {Q:Exit->St->Prop} {st:St}
theorem d7t (hS:SentO G bk) {ins u0:List (List Int)} {l0 row:List Int} {i c0:Nat} (hn:ins.length < 2 ^ 40) (hi:i < ins.length) (hc:c0+row.length < 2 ^ 40)
  (h0:st.s 0=a6t ins) (h4:st.s 4=owI l0) (h5:st.s 5=b8k u0) (h6:st.s 6=li i) (h22:st.s 22=a6t ins) (h23:st.s 23=li ins.length) (h24:st.s 24=li i)
  (h29:st.s 29=slI row) (h30:st.s 30=li row.length) (h31:st.s 31=li 0) (hl:l0.length=ins.length) (hu:u0.length=ins.length) (hb:∀ r∈u0,r.length<=c0) (hin:inB ins.length u0)
  (hex:∀ u l s,a1w ins.length i row u0 l0=some (u,l)->l.length=ins.length->u.length=ins.length->(∀ r∈u,r.length<=c0+row.length)->inB ins.length u->s.s 0=a6t ins->s.s 4=owI l->s.s 5=b8k u->s.s 22=a6t ins->s.s 23=li ins.length->s.s 24=li i->Q (.exit 2) s)
  (hret:a1w ins.length i row u0 l0=none->∀ s,s.s 2= .own 1 0 []->s.s 3=a05 bk (.at i (.s 0))->Q .ret s):AW pg G 119 (.loop a4c) Q st:=by
 refine a0u (Nat×List (List Int)×List Int) (fun p st=>p.1<=row.length/\a1w ins.length i (row.drop p.1) p.2.1 p.2.2=a1w ins.length i row u0 l0/\p.2.2.length=ins.length/\p.2.1.length=ins.length/\(∀ r∈p.2.1,r.length<=c0+p.1)/\inB ins.length p.2.1/\
  st.s 0=a6t ins/\st.s 4=owI p.2.2/\st.s 5=b8k p.2.1/\st.s 6=li i/\st.s 22=a6t ins/\st.s 23=li ins.length/\st.s 24=li i/\st.s 29=slI row/\st.s 30=li row.length/\st.s 31=li p.1) (fun p=>row.length - p.1) (0,u0,l0) ?_ ?_
 ·exact ⟨by simp,by simp,hl,hu,by simpa using hb,hin,h0,h4,h5,h6,h22,h23,h24,h29,h30,h31⟩
 ·clear h0 h4 h5 h6 h22 h23 h24 h29 h30 h31 hl hu hb hin
  rintro ⟨j,u,l⟩ st K ⟨hj,ht,hl,hu,hb,hin,h0,h4,h5,h6,h22,h23,h24,h29,h30,h31⟩ hK
  simp only at hj ht hl hu hb hin h4 h5 h31
  by_cases hlt:j < row.length
  ·rw [List.drop_eq_getElem_cons hlt,a1w] at ht
   by_cases hk:row[j] < 0\/(ins.length:Int)<=row[j]
   ·rw [if_pos hk] at ht
    have key:∀ (s:St) (Q' Q2:Exit->St->Prop),s.s 6=li i->(∀ s,Q .ret s->Q' .ret s)->AW pg G 119 (.draw order_Sort_r10 [[],[],[0,1],[2],[3],[],[4,5,0,1,2,3,4,5]]) (b1z (AW pg G 119 .ret Q') Q2) s:=by
     intro s Q' Q2 h6 hq
     refine a0b ?_
     simp (disch:=omega) [go_sem,hS.val,h6]
     refine a0d (by decide) fun s2 hs he=> ?_
     simp (disch:=omega) [go_sem]
     exact hq _ (hret ht.symm _ (by simp (disch:=omega) [go_sem,hs]) (by simp (disch:=omega) [go_sem,hs,a05]))
    by_cases hk1:row[j] < 0
    ·simp (disch:=omega) [go_sem,a4c,h0,h6,h29,h30,h31,hlt,hk1]
     exact key _ _ _ (by simp (disch:=omega) [go_sem,h6]) (fun s h=>h)
    ·have hk2:(ins.length:Int)<=row[j]:=by omega
     simp (disch:=omega) [go_sem,a4c,h0,h6,h29,h30,h31,hlt,hk1,hk2]
     exact key _ _ _ (by simp (disch:=omega) [go_sem,h6]) (fun s h=>h)
   ·rw [if_neg hk] at ht
    have hk1:0<=row[j]:=by omega
    have hk2:row[j] < ins.length:=by omega
    have hk3:row[j].toNat < u.length:=by omega
    have hk4:u[row[j].toNat].length<=c0+j:=hb _ (List.getElem_mem _)
    simp (disch:=omega) [go_sem,a4c,h0,h4,h5,h6,h22,h23,h24,h29,h30,h31,hlt,hk1,hk2]
    refine hK (j+1,u.set row[j].toNat (u[row[j].toNat]! ++[(i:Int)]),l.set i (wr (l[i]! +1))) _ ⟨by simp only; omega,ht,by simpa using hl,by simpa using hu,fun r hr=> ?_,c9k hin fun k hk=> ?_,?_⟩ (by simp only; omega)
    ·rcases List.mem_or_eq_of_mem_set hr with hr | rfl
     ·have:=hb r hr; simp only; omega
     ·simp [hk3]; omega
    ·simp [hk3] at hk
     rcases hk with hk | rfl
     ·exact hin _ (List.getElem_mem _) k hk
     ·omega
    ·refine ⟨by simp (disch:=omega) [go_sem,h0],?_,?_,by simp (disch:=omega) [go_sem,h6],by simp (disch:=omega) [go_sem,h22],by simp (disch:=omega) [go_sem,h23],by simp (disch:=omega) [go_sem,h24],by simp (disch:=omega) [go_sem,h29],by simp (disch:=omega) [go_sem,h30],by simp (disch:=omega) [go_sem,h31]⟩
     ·simp (disch:=omega) [go_sem,h4]
     ·simp (disch:=omega) [go_sem,h5]
  ·rw [List.drop_eq_nil_of_le (by omega)] at ht
   simp (disch:=omega) [go_sem,a4c,h30,h31,hlt]
   obtain rfl:j=row.length:=by omega
   exact hex u l _ ht.symm hl hu hb hin (by simp (disch:=omega) [go_sem,h0]) (by simp (disch:=omega) [go_sem,h4]) (by simp (disch:=omega) [go_sem,h5]) (by simp (disch:=omega) [go_sem,h22]) (by simp (disch:=omega) [go_sem,h23]) (by simp (disch:=omega) [go_sem,h24])
def tot (ins:List (List Int)):Nat:=(ins.map List.length).sum
theorem c6q {ins:List (List Int)} {i:Nat} (h:i < ins.length):tot (ins.take (i+1))=tot (ins.take i)+ins[i].length/\tot (ins.take (i+1))<=tot ins:=by
 constructor
 ·simp only [tot]
  rw [List.take_succ_eq_append_getElem h,List.map_append,List.sum_append]
  simp
 ·have:tot ins=tot (ins.take (i+1))+tot (ins.drop (i+1)):=by
   simp only [tot]
   rw [<-List.sum_append,<-List.map_append,List.take_append_drop]
  omega
theorem d7u (hS:SentO G bk) {ins u0:List (List Int)} {l0:List Int} (hn:ins.length < 2 ^ 40) (hc:tot ins < 2 ^ 40)
  (h0:st.s 0=a6t ins) (h4:st.s 4=owI l0) (h5:st.s 5=b8k u0) (h22:st.s 22=a6t ins) (h23:st.s 23=li ins.length) (h24:st.s 24=li 0) (hl:l0.length=ins.length) (hu:u0.length=ins.length) (hb:∀ r∈u0,r.length<=0) (hin:inB ins.length u0)
  (hex:∀ u l s,a80 ins.length ins 0 u0 l0= .ok (u,l)->l.length=ins.length->u.length=ins.length->inB ins.length u->(∀ r∈u,r.length < 2 ^ 40)->s.s 0=a6t ins->s.s 4=owI l->s.s 5=b8k u->Q (.exit 0) s)
  (hret:∀ i s,a80 ins.length ins 0 u0 l0= .error i->i < ins.length->s.s 2= .own 1 0 []->s.s 3=a05 bk (.at i (.s 0))->Q .ret s):AW pg G 119 (.loop a6z) Q st:=by
 refine a0u (Nat×List (List Int)×List Int) (fun p st=>p.1<=ins.length/\a80 ins.length (ins.drop p.1) p.1 p.2.1 p.2.2=a80 ins.length ins 0 u0 l0/\p.2.2.length=ins.length/\p.2.1.length=ins.length/\(∀ r∈p.2.1,r.length<=tot (ins.take p.1))/\inB ins.length p.2.1/\
  st.s 0=a6t ins/\st.s 4=owI p.2.2/\st.s 5=b8k p.2.1/\st.s 22=a6t ins/\st.s 23=li ins.length/\st.s 24=li p.1) (fun p=>ins.length - p.1) (0,u0,l0) ?_ ?_
 ·exact ⟨by simp,by simp,hl,hu,by simpa [tot] using hb,hin,h0,h4,h5,h22,h23,h24⟩
 ·clear h0 h4 h5 h22 h23 h24 hl hu hb hin
  rintro ⟨i,u,l⟩ st K ⟨hi,ht,hl,hu,hb,hin,h0,h4,h5,h22,h23,h24⟩ hK
  simp only at hi ht hl hu hb hin h4 h5 h24
  by_cases hlt:i < ins.length
  ·rw [List.drop_eq_getElem_cons hlt,a80] at ht
   obtain ⟨t1,t2⟩:=c6q hlt
   simp (disch:=omega) [go_sem,a6z,h22,h23,h24,hlt]
   refine d7t hS (ins:=ins) (row:=ins[i]) (i:=i) (u0:=u) (l0:=l) (c0:=tot (ins.take i)) hn hlt (by omega) (by simp (disch:=omega) [go_sem,h0]) (by simp (disch:=omega) [go_sem,h4]) (by simp (disch:=omega) [go_sem,h5]) (by simp (disch:=omega) [go_sem]) (by simp (disch:=omega) [go_sem,h22]) (by simp (disch:=omega) [go_sem,h23]) (by simp (disch:=omega) [go_sem,h24])
    (by simp (disch:=omega) [go_sem]) (by simp (disch:=omega) [go_sem]) (by simp (disch:=omega) [go_sem]) hl hu hb hin ?_ ?_
   ·intro u2 l2 s e1 e2 e3 e4 e5 h0 h4 h5 h22 h23 h24
    rw [e1] at ht
    simp (disch:=omega) [go_sem,h24]
    exact hK (i+1,u2,l2) _ ⟨by simp only; omega,ht,e2,e3,by simp only; rw [t1]; exact e4,e5,by simp (disch:=omega) [go_sem,h0],by simp (disch:=omega) [go_sem,h4],by simp (disch:=omega) [go_sem,h5],by simp (disch:=omega) [go_sem,h22],by simp (disch:=omega) [go_sem,h23],by simp (disch:=omega) [go_sem,h24]⟩ (by simp only; omega)
   ·intro e1 s h2 h3
    rw [e1] at ht
    simp (disch:=omega) [go_sem]
    exact hret i _ ht.symm hlt h2 h3
  ·obtain rfl:i=ins.length:=by omega
   rw [List.drop_length,a80] at ht
   simp (disch:=omega) [go_sem,a6z,h23,h24]
   refine hex u l _ ht.symm hl hu hin (fun r hr=> ?_) (by simp (disch:=omega) [go_sem,h0]) (by simp (disch:=omega) [go_sem,h4]) (by simp (disch:=omega) [go_sem,h5])
   have:=hb r hr
   rw [List.take_length] at this
   omega
end
def c44:List Int->List Int->List Int
 | [],l=>l
 | k::ks,l=>c44 ks (l.set k.toNat (wr (l[k.toNat]! - 1)))
theorem c0n:∀ (ks l:List Int),(c44 ks l).length=l.length
 | [],l=>rfl
 | k::ks,l=>by rw [c44,c0n]; simp
def a82:List Bool->List Int->Nat->Option Nat
 | d::ds,l::ls,i=>if d=true\/0 < l then a82 ds ls (i+1) else some i
 | _,_,_=>none
theorem c7u {done:List Bool} {l:List Int} {i k:Nat} (h:i < done.length) (h2:i < l.length):a82 (done.drop i) (l.drop i) k=if done[i]=true\/0 < l[i] then a82 (done.drop (i+1)) (l.drop (i+1)) (k+1) else some k:=by
 rw [List.drop_eq_getElem_cons h,List.drop_eq_getElem_cons h2,a82]
section
variable {G:GG} {Q:Exit->St->Prop} {st:St}
theorem d7v {ins u:List (List Int)} {l0 out:List Int} {done:List Bool} {i:Nat} (hi:i < u.length) (hl:l0.length=u.length) (hin:inB u.length u) (hb:u[i].length < 2 ^ 40)
  (h0:st.s 0=a6t ins) (h4:st.s 4=owI l0) (h5:st.s 5=b8k u) (h10:st.s 10=owI out) (h11:st.s 11=owB done) (h95:st.s 95= .bor 5 [i] 0 u[i].length (st.ep 5)) (h96:st.s 96=li u[i].length) (h97:st.s 97=li 0)
  (hex:∀ s,s.s 0=a6t ins->s.s 4=owI (c44 u[i] l0)->s.s 5=b8k u->s.s 10=owI out->s.s 11=owB done->Q (.exit 8) s):AW pg G 119 (.loop a60) Q st:=by
 refine a0u (Nat×List Int) (fun p st=>p.1<=u[i].length/\c44 (u[i].drop p.1) p.2=c44 u[i] l0/\p.2.length=u.length/\st.s 0=a6t ins/\st.s 4=owI p.2/\st.s 5=b8k u/\st.s 10=owI out/\st.s 11=owB done/\st.s 95= .bor 5 [i] 0 u[i].length (st.ep 5)/\st.s 96=li u[i].length/\st.s 97=li p.1) (fun p=>u[i].length - p.1) (0,l0) ?_ ?_
 ·exact ⟨by simp,by simp,hl,h0,h4,h5,h10,h11,h95,h96,h97⟩
 ·clear h0 h4 h5 h10 h11 h95 h96 h97 hl
  rintro ⟨j,l⟩ st K ⟨hj,ht,hl,h0,h4,h5,h10,h11,h95,h96,h97⟩ hK
  simp only at hj ht hl h4 h97
  by_cases hlt:j < u[i].length
  ·rw [List.drop_eq_getElem_cons hlt,c44] at ht
   obtain ⟨k1,k2⟩:=hin _ (List.getElem_mem hi) _ (List.getElem_mem hlt)
   have k3:u[i][j].toNat < l.length:=by omega
   simp (disch:=omega) [go_sem,a60,h4,h5,h95,h96,h97,hlt,k1,k2]
   refine hK (j+1,l.set u[i][j].toNat (wr (l[u[i][j].toNat]! - 1))) _ ⟨by simp only; omega,ht,by simpa using hl,by simp (disch:=omega) [go_sem,h0],?_,by simp (disch:=omega) [go_sem,h5],by simp (disch:=omega) [go_sem,h10],by simp (disch:=omega) [go_sem,h11],by simp (disch:=omega) [go_sem,h95],by simp (disch:=omega) [go_sem,h96],by simp (disch:=omega) [go_sem,h97]⟩ (by simp only; omega)
   simp (disch:=omega) [go_sem,h4]
  ·rw [List.drop_eq_nil_of_le (by omega),c44] at ht
   subst ht
   simp (disch:=omega) [go_sem,a60,h96,h97,hlt]
   exact hex _ (by simp (disch:=omega) [go_sem,h0]) (by simp (disch:=omega) [go_sem,h4]) (by simp (disch:=omega) [go_sem,h5]) (by simp (disch:=omega) [go_sem,h10]) (by simp (disch:=omega) [go_sem,h11])
theorem d7w {ins u:List (List Int)} {l out:List Int} {done:List Bool} {n:Nat} (hn:n < 2 ^ 40) (hl:l.length=n) (hu:u.length=n) (hd:done.length=n) (ho:out.length < 2 ^ 41) (hin:inB n u) (hb:∀ r∈u,r.length < 2 ^ 40)
  (h0:st.s 0=a6t ins) (h4:st.s 4=owI l) (h5:st.s 5=b8k u) (h10:st.s 10=owI out) (h11:st.s 11=owB done) (h70:st.s 70=li n) (h71:st.s 71=li 0)
  (hex:a82 done l 0=none->∀ s,s.s 0=a6t ins->s.s 4=owI l->s.s 5=b8k u->s.s 10=owI out->s.s 11=owB done->Q (.exit 6) s)
  (hf:∀ k s,a82 done l 0=some k->k < n->done[k]! =false->s.s 0=a6t ins->s.s 4=owI (c44 u[k]! l)->s.s 5=b8k u->s.s 10=owI (out++[(k:Int)])->s.s 11=owB (done.set k true)->Q (.exit 5) s):AW pg G 119 (.loop a4d) Q st:=by
 refine a0u Nat (fun i st=>i<=n/\a82 (done.drop i) (l.drop i) i=a82 done l 0/\st.s 0=a6t ins/\st.s 4=owI l/\st.s 5=b8k u/\st.s 10=owI out/\st.s 11=owB done/\st.s 70=li n/\st.s 71=li i) (fun i=>n - i) 0 ?_ ?_
 ·exact ⟨by simp,by simp,h0,h4,h5,h10,h11,h70,h71⟩
 ·clear h0 h4 h5 h10 h11 h70 h71
  rintro i st K ⟨hi,ht,h0,h4,h5,h10,h11,h70,h71⟩ hK
  by_cases hlt:i < n
  ·have hlt1:i < done.length:=by omega
   have hlt2:i < l.length:=by omega
   have hlt3:i < u.length:=by omega
   rw [c7u hlt1 hlt2] at ht
   have next:(done[i]=true\/0 < l[i])->∀ s,s.s 0=a6t ins->s.s 4=owI l->s.s 5=b8k u->s.s 10=owI out->s.s 11=owB done->s.s 70=li n->s.s 71=li (i+1)->K s:=fun hc s h0 h4 h5 h10 h11 h70 h71=>by
    rw [if_pos hc] at ht
    exact hK (i+1) s ⟨by omega,ht,h0,h4,h5,h10,h11,h70,h71⟩ (by omega)
   by_cases hd1:done[i]=true
   ·simp (disch:=omega) [go_sem,a4d,h4,h5,h10,h11,h70,h71,hlt,hd1]
    exact next (.inl hd1) _ (by simp (disch:=omega) [go_sem,h0]) (by simp (disch:=omega) [go_sem,h4]) (by simp (disch:=omega) [go_sem,h5]) (by simp (disch:=omega) [go_sem,h10]) (by simp (disch:=omega) [go_sem,h11]) (by simp (disch:=omega) [go_sem,h70]) (by simp (disch:=omega) [go_sem])
   ·by_cases hl1:0 < l[i]
    ·simp (disch:=omega) [go_sem,a4d,h4,h5,h10,h11,h70,h71,hlt,hd1,hl1]
     exact next (.inr hl1) _ (by simp (disch:=omega) [go_sem,h0]) (by simp (disch:=omega) [go_sem,h4]) (by simp (disch:=omega) [go_sem,h5]) (by simp (disch:=omega) [go_sem,h10]) (by simp (disch:=omega) [go_sem,h11]) (by simp (disch:=omega) [go_sem,h70]) (by simp (disch:=omega) [go_sem])
    ·rw [if_neg (by simp [hd1,hl1])] at ht
     simp (disch:=omega) [go_sem,a4d,h4,h5,h10,h11,h70,h71,hlt,hd1,hl1]
     refine d7v (ins:=ins) (u:=u) (l0:=l) (out:=out++[(i:Int)]) (done:=done.set i true) (i:=i) hlt3 (by omega) (by rw [hu]; exact hin) (hb _ (List.getElem_mem _)) (by simp (disch:=omega) [go_sem,h0]) (by simp (disch:=omega) [go_sem,h4]) (by simp (disch:=omega) [go_sem,h5]) (by simp (disch:=omega) [go_sem,h10]) (by simp (disch:=omega) [go_sem,h11]) (by simp (disch:=omega) [go_sem]) (by simp (disch:=omega) [go_sem]) (by simp (disch:=omega) [go_sem]) ?_
     intro s h0 h4 h5 h10 h11
     simp (disch:=omega) [go_sem]
     exact hf i _ ht.symm hlt (by simpa [hlt1] using hd1) h0 (by simpa [hlt3] using h4) h5 h10 h11
  ·obtain rfl:i=n:=by omega
   rw [List.drop_eq_nil_of_le (by omega),a82] at ht
   ·simp (disch:=omega) [go_sem,a4d,h70,h71]
    exact hex ht.symm _ (by simp (disch:=omega) [go_sem,h0]) (by simp (disch:=omega) [go_sem,h4]) (by simp (disch:=omega) [go_sem,h5]) (by simp (disch:=omega) [go_sem,h10]) (by simp (disch:=omega) [go_sem,h11])
   ·intros; simp_all
def a81 (u:List (List Int)):Nat->List Bool->List Int->List Int->List Bool×List Int
 | 0,done,_,out=>(done,out)
 | f+1,done,l,out=>match a82 done l 0 with
  | none=>(done,out)
  | some i=>a81 u f (done.set i true) (c44 u[i]! l) (out++[(i:Int)])
theorem c0o:∀ {done:List Bool} {l:List Int} {k i:Nat},a82 done l k=some i->k<=i/\∃ h:i - k < done.length,done[i - k]=false
 | [],l,k,i,h=>by cases l<;>simp [a82] at h
 | d::ds,[],k,i,h=>by simp [a82] at h
 | d::ds,l::ls,k,i,h=>by
  simp only [a82] at h
  split at h
  ·obtain ⟨h1,h2,h3⟩:=c0o h
   refine ⟨by omega,?_⟩
   have e:i - k=(i - (k+1))+1:=by omega
   simp only [e,List.length_cons,List.getElem_cons_succ]
   exact ⟨by omega,h3⟩
  ·rename_i hc
   injection h with h
   subst h
   simp at hc
   simp [hc.1]
theorem c29 {done:List Bool} {l:List Int} {i:Nat} (h:a82 done l 0=some i):(done.set i true).count false+1=done.count false:=by
 obtain ⟨_,h2,h3⟩:=c0o h
 simp only [Nat.sub_zero] at h2 h3
 have e:done=done.take i++false::done.drop (i+1):=by
  conv=>lhs; rw [<-List.take_append_drop i done,List.drop_eq_getElem_cons h2,h3]
 have e2:done.set i true=done.take i++true::done.drop (i+1):=by
  rw [List.set_eq_take_append_cons_drop,if_pos h2]
 rw [e2]
 conv=>rhs; rw [e]
 simp
 omega
theorem d7x {ins u:List (List Int)} {l0 out0:List Int} {done0:List Bool} {n f0:Nat} (hn:n < 2 ^ 40) (hu:u.length=n) (hin:inB n u) (hb:∀ r∈u,r.length < 2 ^ 40) (hl:l0.length=n) (hd:done0.length=n) (hc:done0.count false+out0.length=n) (hf:done0.count false<=f0)
  (h0:st.s 0=a6t ins) (h4:st.s 4=owI l0) (h5:st.s 5=b8k u) (h10:st.s 10=owI out0) (h11:st.s 11=owB done0)
  (hex:∀ s,(a81 u f0 done0 l0 out0).1.length=n->(a81 u f0 done0 l0 out0).2.length<=n->s.s 10=owI (a81 u f0 done0 l0 out0).2->s.s 11=owB (a81 u f0 done0 l0 out0).1->Q (.exit 4) s):AW pg G 119 (.loop a9l) Q st:=by
 refine a0u (Nat×List Bool×List Int×List Int) (fun p st=>p.2.1.count false<=p.1/\a81 u p.1 p.2.1 p.2.2.1 p.2.2.2=a81 u f0 done0 l0 out0/\p.2.1.length=n/\p.2.2.1.length=n/\p.2.1.count false+p.2.2.2.length=n/\
  st.s 0=a6t ins/\st.s 4=owI p.2.2.1/\st.s 5=b8k u/\st.s 10=owI p.2.2.2/\st.s 11=owB p.2.1) (fun p=>p.1) (f0,done0,l0,out0) ?_ ?_
 ·exact ⟨hf,rfl,hd,hl,hc,h0,h4,h5,h10,h11⟩
 ·clear h0 h4 h5 h10 h11 hf hd hl hc
  rintro ⟨f,done,l,out⟩ st K ⟨hf,ht,hd,hl,hc,h0,h4,h5,h10,h11⟩ hK
  simp only at hf ht hd hl hc h4 h10 h11
  simp (disch:=omega) [go_sem,a9l,h4]
  refine d7w (ins:=ins) (u:=u) (l:=l) (out:=out) (done:=done) (n:=n) hn hl hu hd (by omega) hin hb (by simp (disch:=omega) [go_sem,h0]) (by simp (disch:=omega) [go_sem,h4]) (by simp (disch:=omega) [go_sem,h5]) (by simp (disch:=omega) [go_sem,h10]) (by simp (disch:=omega) [go_sem,h11]) (by simp (disch:=omega) [go_sem,hl]) (by simp (disch:=omega) [go_sem]) ?_ ?_
  ·intro hp s h0 h4 h5 h10 h11
   have e:a81 u f0 done0 l0 out0=(done,out):=by
    rw [<-ht]; cases f<;>simp [a81,hp]
   simp (disch:=omega) [go_sem]
   exact hex _ (by rw [e]; exact hd) (by rw [e]; simp only; omega) (by rw [e]; exact h10) (by rw [e]; exact h11)
  ·intro k s hp hk hdk h0 h4 h5 h10 h11
   have hcnt:=c29 hp
   obtain ⟨f',rfl⟩:∃ f',f=f'+1:=⟨f - 1,by omega⟩
   rw [a81,hp] at ht
   simp (disch:=omega) [go_sem]
   exact hK (f',done.set k true,c44 u[k]! l,out++[(k:Int)]) _ ⟨by simp only; omega,ht,by simpa using hd,by simp only [c0n]; exact hl,by simp only [List.length_append,List.length_cons,List.length_nil]; omega,h0,h4,h5,h10,h11⟩ (by simp only; omega)
end
def a9i (ins:List (List Int)):Except (Int×Nat) (List Int):=
 match a80 ins.length ins 0 (List.replicate ins.length []) (List.replicate ins.length 0) with
 | .error i=> .error (i,0)
 | .ok p=>
  if 0<=a3r false (a81 p.1 ins.length (List.replicate ins.length false) p.2 []).1 0 then .error (a3r false (a81 p.1 ins.length (List.replicate ins.length false) p.2 []).1 0,1)
  else .ok (a81 p.1 ins.length (List.replicate ins.length false) p.2 []).2
def d2a (bk:Nat->Nat×Nat):Except (Int×Nat) (List Int)->AV
 | .error e=> .tup [.own 1 0 [],a05 bk (.at e.1 (.s e.2))]
 | .ok out=> .tup [owI out,.lit .nilIface]
theorem e5q {G:GG} {bk:Nat->Nat×Nat} (hS:SentO G bk) (ins:List (List Int)) (hn:ins.length < 2 ^ 40) (hc:tot ins < 2 ^ 40):ACalls pg G c1k [a6t ins] (d2a bk (a9i ins)):=by
 refine b7v rfl ?_
 simp (disch:=omega) [go_sem,b5s]
 refine d7u hS (ins:=ins) (u0:=List.replicate ins.length []) (l0:=List.replicate ins.length 0) hn hc (by simp (disch:=omega) [go_sem]) (by simp (disch:=omega) [go_sem]) (by simp (disch:=omega) [go_sem]) (by simp (disch:=omega) [go_sem]) (by simp (disch:=omega) [go_sem]) (by simp (disch:=omega) [go_sem]) (by simp) (by simp)
  (fun r hr=>by rw [List.eq_of_mem_replicate hr]; simp) (fun r hr=>by rw [List.eq_of_mem_replicate hr]; simp) ?_ ?_
 ·intro u l s hfill hl hu hin hb h0 h4 h5
  simp (disch:=omega) [go_sem,h0]
  refine d7x (ins:=ins) (u:=u) (l0:=l) (out0:=[]) (done0:=List.replicate ins.length false) (n:=ins.length) (f0:=ins.length) hn hu hin hb hl (by simp) (by simp) (by simp) (by simp (disch:=omega) [go_sem,h0]) (by simp (disch:=omega) [go_sem,h4]) (by simp (disch:=omega) [go_sem,h5]) (by simp (disch:=omega) [go_sem]) (by simp (disch:=omega) [go_sem]) ?_
  generalize hp:a81 u ins.length (List.replicate ins.length false) l []=p
  intro s hd ho h10 h11
  simp (disch:=omega) [go_sem,h11]
  refine a0c (d6i G p.1 false (by omega)) rfl rfl ?_
  have hres:a9i ins=if 0<=a3r false p.1 0 then .error (a3r false p.1 0,1) else .ok p.2:=by
   simp only [a9i,hfill,hp]
  by_cases hk:0<=a3r false p.1 0
  ·rw [if_pos hk] at hres
   simp (disch:=omega) [go_sem,hk]
   refine a0b ?_
   simp (disch:=omega) [go_sem,hS.val]
   refine a0d (by decide) fun s2 hs he=> ?_
   simp (disch:=omega) [go_sem,hs,hres,d2a,a05]
  ·rw [if_neg hk] at hres
   simp (disch:=omega) [go_sem,hk,h10,hres,d2a]
 ·intro i s hfill hi h2 h3
  have hres:a9i ins= .error (i,0):=by simp only [a9i,hfill]
  simp (disch:=omega) [go_sem,h2,h3,hres,d2a,a05]
section
variable {G:GG} {bk:Nat->Nat×Nat}
theorem b6z (n:Int):ACalls pg G b6t [li n] (c2e n false 0):=by
 refine b3p rfl ?_
 simp (disch:=omega) [go_sem,b0x]
theorem d1m (hS:Sent G bk) {g h:Nat} (hg:g < 21) (hh:h < 21):ACalls pg G b56 [sv bk g,sv bk h] (lb (decide (g=h))):=by
 refine b2x rfl ?_
 simp (disch:=omega) [go_sem,a9z,hS.blk]
 by_cases h2:g=h
 ·simp [h2]
 ·simp [h2]; intro h3 h4; exact h2 (hS.inj _ _ hg hh (Prod.ext h3 h4))
theorem c0z:a29.length=21:=rfl
theorem c3l:∀ g∈a29,g < 21:=by decide
def b3g (g:Nat):List Nat->Nat->Int
 | [],_=> -1
 | h::hs,i=>if g=h then 101+i else b3g g hs (i+1)
def b61 (g:Nat):Int:=b3g g a29 0
theorem b99 {g i k:Nat} (h:i < a29.length):b3g g (a29.drop i) k=if g=a29[i] then 101+(k:Int) else b3g g (a29.drop (i+1)) (k+1):=by
 rw [List.drop_eq_getElem_cons h]; rfl
theorem b9s (hS:Sent G bk) {g:Nat} (hg:g < 21):ACalls pg G b2i [sv bk g] (li (b61 g)):=by
 refine a96 rfl ?_
 simp (disch:=omega) [go_sem,a7f]
 refine a0c (c3m G bk hS) rfl rfl ?_
 simp (disch:=omega) [go_sem]
 refine a0u Nat (fun i st=>st.s 0=sv bk g/\st.s 3= .own 1 21 (a29.map (sv bk))/\st.s 4=li i/\i<=21/\b3g g (a29.drop i) i=b61 g) (fun i=>21 - i) 0 ?_ ?_
 ·exact ⟨by simp (disch:=omega) [go_sem],by simp (disch:=omega) [go_sem],by simp (disch:=omega) [go_sem],by simp,rfl⟩
 ·rintro i st K ⟨h0,h3,h4,hi,hc⟩ hK
  by_cases hlt:i < 21
  ·have hlt':i < a29.length:=hlt
   rw [b99 hlt'] at hc
   have hlt2:a29[i] < 21:=c3l _ (List.getElem_mem hlt')
   simp (disch:=omega) [go_sem,a4g,h0,h3,h4,c0z,hlt]
   refine a0c (d1m hS hg hlt2) rfl rfl ?_
   by_cases hgi:g=a29[i]
   ·rw [if_pos hgi] at hc
    simp (disch:=omega) [go_sem,h4,<-hgi,<-hc]
   ·rw [if_neg hgi] at hc
    simp (disch:=omega) [go_sem,h0,h3,h4,hgi]
    exact hK (i+1) _ ⟨by simp (disch:=omega) [go_sem,h0],by simp (disch:=omega) [go_sem,h3],by simp (disch:=omega) [go_sem,h4],by omega,hc⟩ (by omega)
  ·obtain rfl:i=21:=by omega
   have:b61 g= -1:=by rw [<-hc]; rfl
   simp (disch:=omega) [go_sem,a4g,h3,h4,this]
abbrev fl (x:Int×Bool×Int):AV:=c2e x.1 x.2.1 x.2.2
def Er.flt:Er->Int×Bool×Int
 | .nil=>(0,false,0)
 | .s g=>(b61 g,false,0)
 | .at p (.s g)=>(b61 g,true,p)
 | _=>(-1,false,0)
inductive Er.ok:Er->Prop
 | nil:Er.ok .nil
 | s {g:Nat} (h:g < 21):Er.ok (.s g)
 | at {p:Int} {g:Nat} (h:g < 21):Er.ok (.at p (.s g))
theorem a69:∀ g,g < 21->b61 g≠0:=by decide
theorem d55 (hS:Sent G bk) {e:Er} (he:e.ok):ACalls pg G b57 [a05 bk e] (fl e.flt):=by
 refine b2y rfl ?_
 cases he with
 | nil=>
  simp (disch:=omega) [go_sem,a4t,a05]
  refine a0c (b7r G) rfl rfl ?_
  simp (disch:=omega) [go_sem,Er.flt]
 | s h=>
  simp (disch:=omega) [go_sem,a4t,a05]
  refine a0c (b9s hS h) rfl rfl ?_
  simp (disch:=omega) [go_sem]
  refine a0c (b6z _) rfl rfl ?_
  simp (disch:=omega) [go_sem,Er.flt]
 | @«at» p g h=>
  simp (disch:=omega) [go_sem,a4t,a05]
  refine a0b ?_
  simp (disch:=omega) [go_sem]
  refine a0m (b9s hS h) rfl rfl (by simp) [32] (by simp) (by simp (disch:=omega) [go_sem]) ?_
  simp (disch:=omega) [go_sem]
  refine a0m (b1i G _ _) (by split<;>rfl) (by split<;>rfl) (by simp) [37] (by simp) (by simp (disch:=omega) [go_sem]) ?_
  rw [if_neg (a69 g h)]
  simp (disch:=omega) [go_sem]
  refine a0d (by decide) fun s2 hs he=> ?_
  simp (disch:=omega) [go_sem,hs,Er.flt]
theorem c82 (e:Er):a0p (a05 bk e)=true/\a04 (a05 bk e)=true:=by
 cases e<;>simp [a05,a0p,a04]
theorem e5f (hS:Sent G bk) {e:Er} (he:e.ok) (f:Int×Bool×Int):ACalls pg G b0g [a05 bk e,fl f] (lb (decide (e.flt=f))):=by
 refine b3t rfl ?_
 have hf:=d55 (G:=G) (bk:=bk) hS he
 have goal:∀ x:Int×Bool×Int,(decide (x.1=f.1)&&(decide (x.2.1=f.2.1)&&decide (x.2.2=f.2.2)))=decide (x=f):=by
  rintro ⟨a,b,c⟩; obtain ⟨d,e,f⟩:=f; simp
 cases he with
 | _=>
  simp (disch:=omega) [go_sem,b01,a05] at hf ⊢
  refine a0b ?_
  simp (disch:=omega) [go_sem]
  refine a0m hf rfl rfl (by simp) [6] (by simp) (by simp (disch:=omega) [go_sem]) ?_
  simp (disch:=omega) [go_sem]
  refine a0m (e5g G _ _ _ _ _ _) rfl rfl (by simp) [8] (by simp) (by simp (disch:=omega) [go_sem]) ?_
  simp (disch:=omega) [go_sem]
  refine a0d (by decide) fun s2 hs he=> ?_
  simp (disch:=omega) [go_sem,hs]
  exact goal _
end
section
variable {G:GG} {bk:Nat->Nat}
theorem c4x {α:Type} [Inhabited α] {xs ys:List α} (hl:xs.length=ys.length) (h:∀ i,i < xs.length->xs[i]! =ys[i]!):xs=ys:=by
 apply List.ext_getElem hl
 intro i h1 h2
 have:=h i h1
 simpa [h1,h2] using this
theorem c71 {a b:List Int} (ha:a.length < 2 ^ 62):ACalls pg G b2h [slI a,slI b] (lb (decide (a=b))):=by
 refine a95 rfl ?_
 by_cases hl:a.length=b.length
 ·have hl':(a.length:Int)=b.length:=by omega
  simp (disch:=omega) [go_sem,a4y,hl']
  refine a0u Nat (fun i st=>st.s 0=slI a/\st.s 1=slI b/\st.s 5=li i/\i<=a.length/\∀ j,j < i->a[j]! =b[j]!) (fun i=>a.length - i) 0 ?_ ?_
  ·exact ⟨by simp (disch:=omega) [go_sem,hl],by simp (disch:=omega) [go_sem],by simp (disch:=omega) [go_sem],by simp,fun j hj=>by omega⟩
  ·rintro i st K ⟨h0,h1,h5,hi,hc⟩ hK
   by_cases hlt:i < a.length
   ·have hlt2:i < b.length:=by omega
    simp (disch:=omega) [go_sem,a4f,h0,h1,h5,hlt]
    refine a0b ?_
    simp (disch:=omega) [go_sem,h0,h1,h5]
    refine a0d (by decide) fun s2 hs he=> ?_
    by_cases he2:a[i]=b[i]
    ·simp (disch:=omega) [go_sem,hs,he2,h5]
     exact hK (i+1) _ ⟨by simp (disch:=omega) [go_sem,hs,h0],by simp (disch:=omega) [go_sem,hs,h1],by simp (disch:=omega) [go_sem],by omega,fun j hj=>by
      by_cases hji:j=i
      ·subst hji; simpa [hlt,hlt2] using he2
      ·exact hc j (by omega)⟩ (by omega)
    ·have:a≠b:=by rintro rfl; exact he2 rfl
     simp (disch:=omega) [go_sem,hs,he2,h5,this]
   ·have:a=b:=c4x hl fun j hj=>hc j (by omega)
    simp (disch:=omega) [go_sem,a4f,h0,h5,hlt,this]
 ·have hl':¬ (a.length:Int)=b.length:=by omega
  have:a≠b:=by rintro rfl; exact hl rfl
  simp (disch:=omega) [go_sem,a4y,hl',this]
end
def b96 (n:Nat) (k:Int):Bool:=decide (k < 0)||decide ((n:Int)<=k)
def c3g (n:Nat):List (List Int)->Nat->Option Nat
 | [],_=>none
 | r::rs,k=>if r.any (b96 n) then some k else c3g n rs (k+1)
def a46 (done:List Bool):List (List Int)->Nat->Int->Int×Int
 | [],_,f=>(-1,f)
 | r::rs,k,f=>if done[k]! then a46 done rs (k+1) f else
  if r.all (fun x=>done[x.toNat]!) then (k,if f < 0 then k else f) else a46 done rs (k+1) (if f < 0 then k else f)
def a9n (ins:List (List Int)):Nat->List Bool->List Int->Except Int (List Int)
 | 0,_,out=> .ok out
 | f+1,done,out=>if (a46 done ins 0 (-1)).1 < 0 then .error (a46 done ins 0 (-1)).2 else a9n ins f (done.set (a46 done ins 0 (-1)).1.toNat true) (out++[(a46 done ins 0 (-1)).1])
def b48 (ins:List (List Int)):List Int×(Int×Bool×Int):=match c3g ins.length ins 0 with
 | some k=>([],(107,true,k))
 | none=>match a9n ins ins.length (List.replicate ins.length false) [] with
  | .error f=>([],(111,true,f))
  | .ok out=>(out,(0,false,0))
section
variable {G:GG} {bk:Nat->Nat×Nat} {Q:Exit->St->Prop} {st:St}
theorem d3v {ins:List (List Int)} {i:Nat} (hi:i < ins.length) (hn:ins.length < 2 ^ 40) (hr:ins[i].length < 2 ^ 40) {ks:List AV} (h0:st.s 0=a6t ins) (h3:st.s 3= .var [li 0,lb false,li 0]) (h4:st.s 4=li i) (h5:st.s 5=li 0)
  (hex:ins[i].any (b96 ins.length)=false->∀ s,s.s 0=a6t ins->s.s 3= .var [li 0,lb false,li 0]->s.s 4=li i->Q (.exit 2) s)
  (hret:ins[i].any (b96 ins.length)=true->∀ s,s.s 2= .own 1 0 []->s.s 3= .var [li 107,lb true,li i]->Q .ret s):AW pg G 112 (.loop a2a) Q st:=by
 refine a0u Nat (fun j st=>j<=ins[i].length/\(ins[i].drop j).any (b96 ins.length)=ins[i].any (b96 ins.length)/\st.s 0=a6t ins/\st.s 3= .var [li 0,lb false,li 0]/\st.s 4=li i/\st.s 5=li j) (fun j=>ins[i].length - j) 0 ?_ ?_
 ·exact ⟨by simp,rfl,h0,h3,h4,h5⟩
 ·clear h0 h3 h4 h5
  rintro j st K ⟨hj,ht,h0,h3,h4,h5⟩ hK
  by_cases hlt:j < ins[i].length
  ·rw [List.drop_eq_getElem_cons hlt,List.any_cons] at ht
   by_cases hk1:ins[i][j] < 0
   ·simp (disch:=omega) [go_sem,a2a,h0,h4,h5,hlt,hk1]
    rw [show b96 ins.length ins[i][j]=true by simp [b96,hk1]] at ht
    refine a0c (b1i G _ _) (by split<;>rfl) (by split<;>rfl) ?_
    simp (disch:=omega) [go_sem,h3]
    exact hret (by simpa using ht.symm) _ (by simp (disch:=omega) [go_sem]) (by simp (disch:=omega) [go_sem])
   ·by_cases hk2:(ins.length:Int)<=ins[i][j]
    ·simp (disch:=omega) [go_sem,a2a,h0,h4,h5,hlt,hk1,hk2]
     rw [show b96 ins.length ins[i][j]=true by simp [b96,hk2]] at ht
     refine a0c (b1i G _ _) (by split<;>rfl) (by split<;>rfl) ?_
     simp (disch:=omega) [go_sem,h3]
     exact hret (by simpa using ht.symm) _ (by simp (disch:=omega) [go_sem]) (by simp (disch:=omega) [go_sem])
    ·have hb:b96 ins.length ins[i][j]=false:=by simp [b96]; omega
     rw [hb,Bool.false_or] at ht
     simp (disch:=omega) [go_sem,a2a,h0,h4,h5,hlt,hk1,hk2]
     exact hK (j+1) _ ⟨by omega,ht,by simp (disch:=omega) [go_sem,h0],by simp (disch:=omega) [go_sem,h3],by simp (disch:=omega) [go_sem,h4],by simp (disch:=omega) [go_sem,h5]⟩ (by omega)
  ·rw [List.drop_eq_nil_of_le (by omega)] at ht
   simp (disch:=omega) [go_sem,a2a,h0,h4,h5,hlt]
   exact hex (by simpa using ht.symm) _ (by simp (disch:=omega) [go_sem,h0]) (by simp (disch:=omega) [go_sem,h3]) (by simp (disch:=omega) [go_sem,h4])
theorem d3w {ins:List (List Int)} (hn:ins.length < 2 ^ 40) (hr:∀ r∈ins,r.length < 2 ^ 40) (h0:st.s 0=a6t ins) (h3:st.s 3= .var [li 0,lb false,li 0]) (h4:st.s 4=li 0)
  (hex:c3g ins.length ins 0=none->∀ s,s.s 0=a6t ins->s.s 3= .var [li 0,lb false,li 0]->Q (.exit 0) s)
  (hret:∀ k s,c3g ins.length ins 0=some k->s.s 2= .own 1 0 []->s.s 3= .var [li 107,lb true,li k]->Q .ret s):AW pg G 112 (.loop a3u) Q st:=by
 refine a0u Nat (fun i st=>i<=ins.length/\c3g ins.length (ins.drop i) i=c3g ins.length ins 0/\st.s 0=a6t ins/\st.s 3= .var [li 0,lb false,li 0]/\st.s 4=li i) (fun j=>ins.length - j) 0 ?_ ?_
 ·exact ⟨by simp,rfl,h0,h3,h4⟩
 ·clear h0 h3 h4
  rintro i st K ⟨hi,ht,h0,h3,h4⟩ hK
  by_cases hlt:i < ins.length
  ·rw [List.drop_eq_getElem_cons hlt,c3g] at ht
   simp (disch:=omega) [go_sem,a3u,h0,h4,hlt]
   refine d3v hlt hn (hr _ (List.getElem_mem hlt)) (ks:=[]) (by simp (disch:=omega) [go_sem,h0]) (by simp (disch:=omega) [go_sem,h3]) (by simp (disch:=omega) [go_sem,h4]) (by simp (disch:=omega) [go_sem]) ?_ ?_
   ·intro hb s h0 h3 h4
    rw [if_neg (by simp [hb])] at ht
    simp (disch:=omega) [go_sem,h4]
    exact hK (i+1) _ ⟨by omega,ht,by simp (disch:=omega) [go_sem,h0],by simp (disch:=omega) [go_sem,h3],by simp (disch:=omega) [go_sem,h4]⟩ (by omega)
   ·intro hb s h2 h3
    rw [if_pos hb] at ht
    simp (disch:=omega) [go_sem]
    exact hret i s ht.symm h2 h3
  ·rw [List.drop_eq_nil_of_le (by omega),c3g] at ht
   simp (disch:=omega) [go_sem,a3u,h0,h4,hlt]
   exact hex ht.symm _ (by simp (disch:=omega) [go_sem,h0]) (by simp (disch:=omega) [go_sem,h3])
theorem d3x {ins:List (List Int)} {done:List Bool} {out:List Int} {k:Nat} {nx f:Int} (hk:k < ins.length) (hn:ins.length < 2 ^ 40) (hr:ins[k].length < 2 ^ 40) (hd:done.length=ins.length) (hin:inB ins.length ins)
  (h0:st.s 0=a6t ins) (h3:st.s 3= .var [li 0,lb false,li 0]) (h6:st.s 6=owB done) (h7:st.s 7=owI out) (h8:st.s 8=li nx) (h9:st.s 9=li f) (h10:st.s 10=li k) (h11:st.s 11=lb true) (h12:st.s 12=li 0)
  (hex:∀ s,s.s 0=a6t ins->s.s 3= .var [li 0,lb false,li 0]->s.s 6=owB done->s.s 7=owI out->s.s 8=li nx->s.s 9=li f->s.s 10=li k->s.s 11=lb (ins[k].all fun x=>done[x.toNat]!)->Q (.exit 8) s):AW pg G 112 (.loop a2b) Q st:=by
 refine a0u (Nat×Bool) (fun p st=>p.1<=ins[k].length/\(p.2&&(ins[k].drop p.1).all fun x=>done[x.toNat]!)=(ins[k].all fun x=>done[x.toNat]!)/\st.s 0=a6t ins/\st.s 3= .var [li 0,lb false,li 0]/\st.s 6=owB done/\st.s 7=owI out/\st.s 8=li nx/\st.s 9=li f/\st.s 10=li k/\st.s 11=lb p.2/\st.s 12=li p.1) (fun p=>ins[k].length - p.1) (0,true) ?_ ?_
 ·exact ⟨by simp,by simp,h0,h3,h6,h7,h8,h9,h10,h11,h12⟩
 ·clear h0 h3 h6 h7 h8 h9 h10 h11 h12
  rintro ⟨j,b⟩ st K ⟨hj,ht,h0,h3,h6,h7,h8,h9,h10,h11,h12⟩ hK
  simp only at hj ht h11 h12
  by_cases hlt:j < ins[k].length
  ·rw [List.drop_eq_getElem_cons hlt,List.all_cons] at ht
   obtain ⟨k1,k2⟩:=hin _ (List.getElem_mem hk) _ (List.getElem_mem hlt)
   have k3:ins[k][j].toNat < done.length:=by omega
   cases b with
   | true=>
    simp (disch:=omega) [go_sem,a2b,h0,h6,h10,h11,h12,hlt,k1,k2]
    exact hK (j+1,done[ins[k][j].toNat]!) _ ⟨by simp only; omega,by rw [<-ht]; simp,by simp (disch:=omega) [go_sem,h0],by simp (disch:=omega) [go_sem,h3],by simp (disch:=omega) [go_sem,h6],by simp (disch:=omega) [go_sem,h7],by simp (disch:=omega) [go_sem,h8],by simp (disch:=omega) [go_sem,h9],by simp (disch:=omega) [go_sem,h10],by simp (disch:=omega) [go_sem,k3],by simp (disch:=omega) [go_sem,h12]⟩ (by simp only; omega)
   | false=>
    simp (disch:=omega) [go_sem,a2b,h0,h6,h10,h11,h12,hlt,k1,k2]
    exact hK (j+1,false) _ ⟨by simp only; omega,by rw [<-ht]; simp,by simp (disch:=omega) [go_sem,h0],by simp (disch:=omega) [go_sem,h3],by simp (disch:=omega) [go_sem,h6],by simp (disch:=omega) [go_sem,h7],by simp (disch:=omega) [go_sem,h8],by simp (disch:=omega) [go_sem,h9],by simp (disch:=omega) [go_sem,h10],by simp (disch:=omega) [go_sem],by simp (disch:=omega) [go_sem,h12]⟩ (by simp only; omega)
  ·rw [List.drop_eq_nil_of_le (by omega),List.all_nil,Bool.and_true] at ht
   simp (disch:=omega) [go_sem,a2b,h0,h10,h12,hlt]
   exact hex _ (by simp (disch:=omega) [go_sem,h0]) (by simp (disch:=omega) [go_sem,h3]) (by simp (disch:=omega) [go_sem,h6]) (by simp (disch:=omega) [go_sem,h7]) (by simp (disch:=omega) [go_sem,h8]) (by simp (disch:=omega) [go_sem,h9]) (by simp (disch:=omega) [go_sem,h10]) (by simp (disch:=omega) [go_sem,h11,ht])
theorem d3y {ins:List (List Int)} {done:List Bool} {out:List Int} (hn:ins.length < 2 ^ 40) (hr:∀ r∈ins,r.length < 2 ^ 40) (hd:done.length=ins.length) (hin:inB ins.length ins)
  (h0:st.s 0=a6t ins) (h3:st.s 3= .var [li 0,lb false,li 0]) (h6:st.s 6=owB done) (h7:st.s 7=owI out) (h8:st.s 8=li (-1)) (h9:st.s 9=li (-1)) (h10:st.s 10=li 0)
  (hex:∀ s,s.s 0=a6t ins->s.s 3= .var [li 0,lb false,li 0]->s.s 6=owB done->s.s 7=owI out->s.s 8=li (a46 done ins 0 (-1)).1->s.s 9=li (a46 done ins 0 (-1)).2->Q (.exit 6) s):AW pg G 112 (.loop a1v) Q st:=by
 refine a0u (Nat×Int×Int) (fun p st=>p.1<=ins.length/\(if p.2.1 < 0 then p.2.1= -1/\a46 done (ins.drop p.1) p.1 p.2.2=a46 done ins 0 (-1) else a46 done ins 0 (-1)=(p.2.1,p.2.2))/\st.s 0=a6t ins/\st.s 3= .var [li 0,lb false,li 0]/\st.s 6=owB done/\st.s 7=owI out/\st.s 8=li p.2.1/\st.s 9=li p.2.2/\st.s 10=li p.1) (fun p=>ins.length - p.1) (0,-1,-1) ?_ ?_
 ·exact ⟨by simp,by simp,h0,h3,h6,h7,h8,h9,h10⟩
 ·clear h0 h3 h6 h7 h8 h9 h10
  rintro ⟨k,nx,f⟩ st K ⟨hk,ht,h0,h3,h6,h7,h8,h9,h10⟩ hK
  simp only at hk ht h8 h9 h10
  by_cases hlt:k < ins.length
  ·by_cases hnx:nx < 0
   ·rw [if_pos hnx] at ht
    obtain ⟨rfl,ht⟩:=ht
    have hlt2:k < done.length:=by omega
    rw [List.drop_eq_getElem_cons hlt,a46] at ht
    by_cases hdk:done[k]=true
    ·rw [if_pos (by simpa [hlt2] using hdk)] at ht
     simp (disch:=omega) [go_sem,a1v,h0,h6,h8,h9,h10,hlt,hdk]
     exact hK (k+1,-1,f) _ ⟨by simp only; omega,by simpa using ht,by simp (disch:=omega) [go_sem,h0],by simp (disch:=omega) [go_sem,h3],by simp (disch:=omega) [go_sem,h6],by simp (disch:=omega) [go_sem,h7],by simp (disch:=omega) [go_sem,h8],by simp (disch:=omega) [go_sem,h9],by simp (disch:=omega) [go_sem,h10]⟩ (by simp only; omega)
    ·rw [if_neg (by simpa [hlt2] using hdk)] at ht
     have step:∀ (f':Int) (s:St) (Q':Exit->St->Prop),f'=(if f < 0 then (k:Int) else f)->s.s 0=a6t ins->s.s 3= .var [li 0,lb false,li 0]->s.s 6=owB done->s.s 7=owI out->s.s 8=li (-1)->s.s 9=li f'->s.s 10=li k->s.s 11=lb true->s.s 12=li 0->
       AW pg G 112 (.loop a2b) (b13 8 (b1z (AW pg G 112 (.seq (.reg lodgeref17_Sort_r25) (.cond (.t 97) (.reg lodgeref17_Sort_r26) .skip)) (b13 7 (b1z (AW pg G 112 (.reg lodgeref17_Sort_r16) (b1z K Q)) Q'))) (b13 7 (b1z (AW pg G 112 (.reg lodgeref17_Sort_r16) (b1z K Q)) Q')))) s:=by
      intro f' s Q' hf' h0 h3 h6 h7 h8 h9 h10 h11 h12
      refine d3x (ins:=ins) (done:=done) (out:=out) (k:=k) (nx:= -1) (f:=f') hlt hn (hr _ (List.getElem_mem _)) hd hin h0 h3 h6 h7 h8 h9 h10 h11 h12 ?_
      intro s h0 h3 h6 h7 h8 h9 h10 h11
      by_cases hfr:(ins[k].all fun x=>done[x.toNat]!)=true
      ·rw [if_pos hfr] at ht
       simp (disch:=omega) only [hfr] at h11
       simp (disch:=omega) [go_sem,h10,h11]
       exact hK (k+1,k,f') _ ⟨by simp only; omega,by rw [if_neg (by simp only; omega)]; simp only; rw [hf',<-ht],by simp (disch:=omega) [go_sem,h0],by simp (disch:=omega) [go_sem,h3],by simp (disch:=omega) [go_sem,h6],by simp (disch:=omega) [go_sem,h7],by simp (disch:=omega) [go_sem,h8],by simp (disch:=omega) [go_sem,h9],by simp (disch:=omega) [go_sem,h10]⟩ (by simp only; omega)
      ·rw [if_neg hfr] at ht
       rw [show (ins[k].all fun x=>done[x.toNat]!)=false by simpa using hfr] at h11
       simp (disch:=omega) [go_sem,h10,h11]
       exact hK (k+1,-1,f') _ ⟨by simp only; omega,by simp only; rw [if_pos (by omega)]; exact ⟨trivial,by rw [hf']; exact ht⟩,by simp (disch:=omega) [go_sem,h0],by simp (disch:=omega) [go_sem,h3],by simp (disch:=omega) [go_sem,h6],by simp (disch:=omega) [go_sem,h7],by simp (disch:=omega) [go_sem,h8],by simp (disch:=omega) [go_sem,h9],by simp (disch:=omega) [go_sem,h10]⟩ (by simp only; omega)
     by_cases hf:f < 0
     ·simp (disch:=omega) [go_sem,a1v,h0,h6,h8,h9,h10,hlt,hdk,hf]
      exact step k _ _ (by rw [if_pos hf]) (by simp (disch:=omega) [go_sem,h0]) (by simp (disch:=omega) [go_sem,h3]) (by simp (disch:=omega) [go_sem,h6]) (by simp (disch:=omega) [go_sem,h7]) (by simp (disch:=omega) [go_sem,h8]) (by simp (disch:=omega) [go_sem,h9]) (by simp (disch:=omega) [go_sem,h10]) (by simp (disch:=omega) [go_sem]) (by simp (disch:=omega) [go_sem])
     ·simp (disch:=omega) [go_sem,a1v,h0,h6,h8,h9,h10,hlt,hdk,hf]
      exact step f _ _ (by rw [if_neg hf]) (by simp (disch:=omega) [go_sem,h0]) (by simp (disch:=omega) [go_sem,h3]) (by simp (disch:=omega) [go_sem,h6]) (by simp (disch:=omega) [go_sem,h7]) (by simp (disch:=omega) [go_sem,h8]) (by simp (disch:=omega) [go_sem,h9]) (by simp (disch:=omega) [go_sem,h10]) (by simp (disch:=omega) [go_sem]) (by simp (disch:=omega) [go_sem])
   ·rw [if_neg hnx] at ht
    simp (disch:=omega) [go_sem,a1v,h0,h8,h10,hlt,hnx]
    exact hex _ (by simp (disch:=omega) [go_sem,h0]) (by simp (disch:=omega) [go_sem,h3]) (by simp (disch:=omega) [go_sem,h6]) (by simp (disch:=omega) [go_sem,h7]) (by simp (disch:=omega) [go_sem,h8,ht]) (by simp (disch:=omega) [go_sem,h9,ht])
  ·have hres:a46 done ins 0 (-1)=(nx,f):=by
    split at ht
    ·obtain ⟨rfl,ht⟩:=ht
     rw [List.drop_eq_nil_of_le (by omega),a46] at ht
     exact ht.symm
    ·exact ht
   simp (disch:=omega) [go_sem,a1v,h0,h10,hlt]
   exact hex _ (by simp (disch:=omega) [go_sem,h0]) (by simp (disch:=omega) [go_sem,h3]) (by simp (disch:=omega) [go_sem,h6]) (by simp (disch:=omega) [go_sem,h7]) (by simp (disch:=omega) [go_sem,h8,hres]) (by simp (disch:=omega) [go_sem,h9,hres])
theorem b31 {done:List Bool}:∀ {rs:List (List Int)} {k:Nat} {f:Int},(a46 done rs k f).1= -1\/((k:Int)<=(a46 done rs k f).1/\(a46 done rs k f).1 < k+rs.length)
 | [],k,f=>by simp [a46]
 | r::rs,k,f=>by
  simp only [a46,List.length_cons]
  split
  ·rcases b31 (done:=done) (rs:=rs) (k:=k+1) (f:=f) with h | h
   ·exact .inl h
   ·exact .inr (by omega)
  ·split
   ·exact .inr (by simp only; omega)
   ·rcases b31 (done:=done) (rs:=rs) (k:=k+1) (f:=if f < 0 then k else f) with h | h
    ·exact .inl h
    ·exact .inr (by omega)
theorem d3z {ins:List (List Int)} {done0:List Bool} {f0:Nat} {out0:List Int} (hn:ins.length < 2 ^ 40) (hr:∀ r∈ins,r.length < 2 ^ 40) (hd:done0.length=ins.length) (ho:out0.length+f0=ins.length) (hin:inB ins.length ins)
  (h0:st.s 0=a6t ins) (h3:st.s 3= .var [li 0,lb false,li 0]) (h6:st.s 6=owB done0) (h7:st.s 7=owI out0)
  (hex:∀ out s,a9n ins f0 done0 out0= .ok out->s.s 3= .var [li 0,lb false,li 0]->s.s 7=owI out->Q (.exit 4) s)
  (hret:∀ f s,a9n ins f0 done0 out0= .error f->s.s 2= .own 1 0 []->s.s 3= .var [li 111,lb true,li f]->Q .ret s):AW pg G 112 (.loop a3v) Q st:=by
 refine a0u (Nat×List Bool×List Int) (fun p st=>p.2.2.length+p.1=ins.length/\p.2.1.length=ins.length/\a9n ins p.1 p.2.1 p.2.2=a9n ins f0 done0 out0/\st.s 0=a6t ins/\st.s 3= .var [li 0,lb false,li 0]/\st.s 6=owB p.2.1/\st.s 7=owI p.2.2) (fun p=>p.1) (f0,done0,out0) ?_ ?_
 ·exact ⟨ho,hd,rfl,h0,h3,h6,h7⟩
 ·clear h0 h3 h6 h7 hd ho
  rintro ⟨f,done,out⟩ st K ⟨ho,hd,ht,h0,h3,h6,h7⟩ hK
  simp only at ho hd ht h6 h7
  cases f with
  | zero=>
   rw [a9n] at ht
   simp (disch:=omega) [go_sem,a3v,h0,h7]
   exact hex out _ ht.symm (by simp (disch:=omega) [go_sem,h3]) (by simp (disch:=omega) [go_sem,h7])
  | succ f=>
   have hlt:(out.length:Int) < ins.length:=by omega
   simp (disch:=omega) [go_sem,a3v,h0,h7,hlt]
   refine d3y (ins:=ins) (done:=done) (out:=out) hn hr hd hin (by simp (disch:=omega) [go_sem,h0]) (by simp (disch:=omega) [go_sem,h3]) (by simp (disch:=omega) [go_sem,h6]) (by simp (disch:=omega) [go_sem,h7]) (by simp (disch:=omega) [go_sem]) (by simp (disch:=omega) [go_sem]) (by simp (disch:=omega) [go_sem]) ?_
   have hrng:=b31 (done:=done) (rs:=ins) (k:=0) (f:= -1)
   simp only [a9n] at ht
   generalize a46 done ins 0 (-1)=p at ht hrng
   obtain ⟨nx,fi⟩:=p
   simp only at ht hrng
   intro s h0 h3 h6 h7 h8 h9
   simp only at h8 h9
   by_cases hnx:nx < 0
   ·rw [if_pos hnx] at ht
    simp (disch:=omega) [go_sem,h8,h9,hnx]
    refine a0c (b1i G _ _) (by split<;>rfl) (by split<;>rfl) ?_
    simp (disch:=omega) [go_sem,h3]
    exact hret fi _ ht.symm (by simp (disch:=omega) [go_sem]) (by simp (disch:=omega) [go_sem])
   ·rw [if_neg hnx] at ht
    have h1:nx.toNat < done.length:=by omega
    simp (disch:=omega) [go_sem,h6,h7,h8,hnx]
    exact hK (f,done.set nx.toNat true,out++[nx]) _ ⟨by simp only [List.length_append,List.length_cons,List.length_nil]; omega,by simpa using hd,ht,by simp (disch:=omega) [go_sem,h0],by simp (disch:=omega) [go_sem,h3],by simp (disch:=omega) [go_sem,h6],by simp (disch:=omega) [go_sem]⟩ (by simp only; omega)
theorem b30 {n:Nat}:∀ {rs:List (List Int)} {k:Nat},c3g n rs k=none->inB n rs
 | [],k,h=>fun r hr=>by simp at hr
 | r::rs,k,h=>by
  simp only [c3g] at h
  split at h
  ·cases h
  ·rename_i hb
   intro x hx
   rcases List.mem_cons.1 hx with rfl | hx
   ·intro y hy
    have:b96 n y=false:=by
     simp only [List.any_eq_true,not_exists,not_and,Bool.not_eq_true] at hb
     exact hb y hy
    simp [b96] at this
    omega
   ·exact b30 h x hx
theorem d7l (ins:List (List Int)) (hn:ins.length < 2 ^ 40) (hr:∀ r∈ins,r.length < 2 ^ 40):ACalls pg G b4l [a6t ins] (.tup [owI (b48 ins).1,fl (b48 ins).2]):=by
 refine b1q rfl ?_
 simp (disch:=omega) [go_sem,a8s]
 refine d3w (ins:=ins) hn hr (by simp (disch:=omega) [go_sem]) (by simp (disch:=omega) [go_sem]) (by simp (disch:=omega) [go_sem]) ?_ ?_
 ·intro hb s h0 h3
  simp (disch:=omega) [go_sem,h0]
  refine d3z (ins:=ins) (done0:=List.replicate ins.length false) (f0:=ins.length) (out0:=[]) hn hr (by simp) (by simp) (b30 hb) (by simp (disch:=omega) [go_sem,h0]) (by simp (disch:=omega) [go_sem,h3]) (by simp (disch:=omega) [go_sem]) (by simp (disch:=omega) [go_sem]) ?_ ?_
  ·intro out s hl h3 h7
   have hres:b48 ins=(out,(0,false,0)):=by simp only [b48,hb,hl]
   simp (disch:=omega) [go_sem,h7]
   refine a0c (b7r G) rfl rfl ?_
   simp (disch:=omega) [go_sem,h3,h7,hres]
  ·intro f s hl h2 h3
   have hres:b48 ins=([],(111,true,f)):=by simp only [b48,hb,hl]
   simp (disch:=omega) [go_sem,h2,h3,hres]
 ·intro k s hb h2 h3
  have hres:b48 ins=([],(107,true,(k:Int))):=by simp only [b48,hb]
  simp (disch:=omega) [go_sem,h2,h3,hres]
end
theorem get!_set {α:Type} [Inhabited α] {l:List α} {i k:Nat} {v:α} (hi:i < l.length):(l.set i v)[k]! =if k=i then v else l[k]! :=by
 by_cases h:k=i
 ·subst h; simp [hi]
 ·simp only [h,if_false]
  by_cases hk:k < l.length
  ·simp [hk,Ne.symm h,List.getElem_set]
  ·simp [hk]
theorem get!_rep {α:Type} [Inhabited α] {n k:Nat} {v:α} (h:k < n):(List.replicate n v)[k]! =v:=by simp [h]
theorem get!_drop {α:Type} [Inhabited α] {l:List α} {i:Nat} (h:i < l.length):l.drop i=l[i]! ::l.drop (i+1):=by
 rw [List.drop_eq_getElem_cons h]; simp [h]
theorem b0p {n i:Nat}:∀ {row:List Int} {u:List (List Int)} {l:List Int},a1w n i row u l=none↔row.any (b96 n)=true
 | [],u,l=>by simp [a1w]
 | k::ks,u,l=>by
  rw [a1w,List.any_cons]
  by_cases hb:k < 0\/(n:Int)<=k
  ·rw [if_pos hb]
   have:b96 n k=true:=by simp only [b96,Bool.or_eq_true,decide_eq_true_eq]; exact hb
   simp [this]
  ·rw [if_neg hb,b0p]
   have:b96 n k=false:=by simp only [b96,Bool.or_eq_false_iff,decide_eq_false_iff_not]; omega
   simp [this]
theorem c52 {n:Nat}:∀ {rs:List (List Int)} {i:Nat} {u:List (List Int)} {l:List Int},(∀ k,c3g n rs i=some k->a80 n rs i u l= .error k)/\(c3g n rs i=none->∃ p,a80 n rs i u l= .ok p)
 | [],i,u,l=>⟨fun k h=>by simp [c3g] at h,fun _=>⟨_,rfl⟩⟩
 | r::rs,i,u,l=>by
  rw [c3g,a80]
  by_cases hb:r.any (b96 n)=true
  ·rw [if_pos hb,b0p.2 hb]
   exact ⟨fun k h=>by injection h with h; rw [h],fun h=>by cases h⟩
  ·rw [if_neg hb]
   cases hf:a1w n i r u l with
   | none=>exact absurd (b0p.1 hf) hb
   | some p=>exact c52
theorem b65 {n i:Nat} (hi:i < n):∀ {row:List Int} {u u':List (List Int)} {l l':List Int},a1w n i row u l=some (u',l')->u.length=n->l.length=n->0<=l[i]! ->l[i]! +row.length < 2 ^ 62->
  u'.length=n/\l'.length=n/\(∀ k,k < n->∀ j:Int,(u'[k]!).count j=(u[k]!).count j+if j=i then row.count (k:Int) else 0)/\∀ k,k < n->l'[k]! =l[k]! +if k=i then (row.length:Int) else 0
 | [],u,u',l,l',h,hu,hl,h0,h1=>by
  simp only [a1w,Option.some.injEq,Prod.mk.injEq] at h
  obtain ⟨rfl,rfl⟩:=h
  exact ⟨hu,hl,fun k hk j=>by simp,fun k hk=>by simp⟩
 | x::xs,u,u',l,l',h,hu,hl,h0,h1=>by
  rw [a1w] at h
  split at h
  ·cases h
  ·rename_i hb
   simp only [List.length_cons] at h1
   have hw:wr (l[i]! +1)=l[i]! +1:=b1e (by omega)
   rw [hw] at h
   have hx:x.toNat < u.length:=by omega
   have hli:(l.set i (l[i]! +1))[i]! =l[i]! +1:=by rw [get!_set (by omega)]; simp
   obtain ⟨g1,g2,g3,g4⟩:=b65 hi h (by simpa using hu) (by simpa using hl) (by rw [hli]; omega) (by rw [hli]; omega)
   refine ⟨g1,g2,fun k hk j=> ?_,fun k hk=> ?_⟩
   ·rw [g3 k hk j,get!_set hx]
    by_cases hkx:k=x.toNat
    ·subst hkx
     have:(x.toNat:Int)=x:=by omega
     simp only [if_true,List.count_append,this,List.count_cons,List.count_nil]
     by_cases hj:j=i
     ·subst hj; simp; omega
     ·have:¬ ((i:Int)=j):=fun h=>hj h.symm
      simp [hj,this]
    ·have:¬ (x=(k:Int)):=by omega
     simp only [hkx,if_false,List.count_cons,beq_iff_eq,this,Nat.add_zero]
   ·rw [g4 k hk,get!_set (by omega)]
    by_cases hki:k=i
    ·subst hki; simp; omega
    ·simp [hki]
theorem c53 {n:Nat}:∀ {rs:List (List Int)} {i:Nat} {u u':List (List Int)} {l l':List Int},a80 n rs i u l= .ok (u',l')->i+rs.length=n->u.length=n->l.length=n->(∀ k,k < n->0<=l[k]!)->(∀ k,k < n->i<=k->l[k]! =0)->(∀ r∈rs,r.length < 2 ^ 61)->
  (∀ k,k < n->∀ j:Nat,j < n->(u'[k]!).count (j:Int)=(u[k]!).count (j:Int)+if i<=j then (rs[j - i]!).count (k:Int) else 0)/\∀ k,k < n->l'[k]! =l[k]! +if i<=k then ((rs[k - i]!).length:Int) else 0
 | [],i,u,u',l,l',h,hi,hu,hl,h0,h1,hr=>by
  simp only [a80,Except.ok.injEq,Prod.mk.injEq] at h
  obtain ⟨rfl,rfl⟩:=h
  simp only [List.length_nil,Nat.add_zero] at hi
  subst hi
  exact ⟨fun k hk j hj=>by rw [if_neg (by omega)]; rfl,fun k hk=>by rw [if_neg (by omega)]; simp⟩
 | r::rs,i,u,u',l,l',h,hi,hu,hl,h0,h1,hr=>by
  rw [a80] at h
  simp only [List.length_cons] at hi
  have hin:i < n:=by omega
  cases hf:a1w n i r u l with
  | none=>rw [hf] at h; cases h
  | some p=>
   obtain ⟨u1,l1⟩:=p
   rw [hf] at h
   simp only at h
   have hrl:=hr r (by simp)
   obtain ⟨g1,g2,g3,g4⟩:=b65 hin hf hu hl (h0 i hin) (by rw [h1 i hin (Nat.le_refl _)]; omega)
   obtain ⟨k1,k2⟩:=c53 h (by omega) g1 g2 (fun k hk=>by rw [g4 k hk]; have:=h0 k hk; split<;>omega) (fun k hk hik=>by rw [g4 k hk,if_neg (by omega),h1 k hk (by omega)]; rfl) (fun x hx=>hr x (by simp [hx]))
   refine ⟨fun k hk j hj=> ?_,fun k hk=> ?_⟩
   ·rw [k1 k hk j hj,g3 k hk]
    rcases Nat.lt_trichotomy j i with hji | hji | hji
    ·rw [if_neg (by omega),if_neg (by omega),if_neg (by omega)]
    ·subst hji; rw [if_pos rfl,if_neg (by omega),if_pos (Nat.le_refl _)]; simp
    ·have e:j - i=(j - (i+1))+1:=by omega
     rw [if_neg (by omega),if_pos (by omega),if_pos (by omega),e]
     simp
   ·rw [k2 k hk,g4 k hk]
    rcases Nat.lt_trichotomy k i with hji | hji | hji
    ·rw [if_neg (by omega),if_neg (by omega),if_neg (by omega)]; omega
    ·subst hji; rw [if_pos rfl,if_neg (by omega),if_pos (Nat.le_refl _)]; simp
    ·have e:k - i=(k - (i+1))+1:=by omega
     rw [if_neg (by omega),if_pos (by omega),if_pos (by omega),e]
     simp
theorem c8w {n:Nat}:∀ {ks l:List Int},l.length=n->(∀ k∈ks,0<=k/\k < (n:Int))->(∀ k,k < n->(ks.count (k:Int):Int)<=l[k]! /\l[k]! < 2 ^ 62)->∀ k,k < n->(c44 ks l)[k]! =l[k]! - ks.count (k:Int)
 | [],l,hl,hk,hb,k,hkn=>by simp [c44]
 | x::xs,l,hl,hk,hb,k,hkn=>by
  obtain ⟨h1,h2⟩:=hk x (by simp)
  have hx:x.toNat < l.length:=by omega
  have e:(x.toNat:Int)=x:=by omega
  have hbx:=hb x.toNat (by omega)
  rw [e] at hbx
  simp only [List.count_cons_self] at hbx
  have hw:wr (l[x.toNat]! - 1)=l[x.toNat]! - 1:=b1e (by omega)
  rw [c44,hw,c8w (n:=n) (by simpa using hl) (fun k hk'=>hk k (by simp [hk'])) (fun k hkn=> ?_) k hkn,get!_set hx]
  ·by_cases hkx:k=x.toNat
   ·subst hkx; rw [if_pos rfl,e,List.count_cons_self]; omega
   ·have:¬ (x=(k:Int)):=by omega
    simp only [hkx,if_false,List.count_cons,beq_iff_eq,this,Nat.add_zero]
  ·rw [get!_set hx]
   have:=hb k hkn
   by_cases hkx:k=x.toNat
   ·subst hkx; rw [e] at this ⊢; rw [if_pos rfl]; simp only [List.count_cons_self] at this; omega
   ·have hne:¬ (x=(k:Int)):=by omega
    simp only [hkx,if_false]
    simp only [List.count_cons,beq_iff_eq,hne,if_false,Nat.add_zero] at this
    exact this
def cnt (done:List Bool) (row:List Int):Nat:=row.countP fun x=> !done[x.toNat]!
theorem c8t {done:List Bool} {i:Nat} (hi:i < done.length) (hd:done[i]! =false):∀ {row:List Int},(∀ x∈row,0<=x/\x < (done.length:Int))->cnt (done.set i true) row+row.count (i:Int)=cnt done row
 | [],_=>by simp [cnt]
 | x::xs,h=>by
  have ih:=c8t hi hd (row:=xs) (fun y hy=>h y (by simp [hy]))
  simp only [cnt] at ih ⊢
  rw [List.countP_cons,List.countP_cons,List.count_cons,get!_set hi]
  have:=(h x (by simp)).1
  by_cases hx:x.toNat=i
  ·have:x=(i:Int):=by omega
   subst this
   simp [hd] at ih ⊢
   omega
  ·have:¬ (x=(i:Int)):=by omega
   simp only [hx,if_false,beq_iff_eq,this,Nat.add_zero]
   omega
theorem c5y {done:List Bool} {row:List Int}:cnt done row=0↔row.all (fun x=>done[x.toNat]!)=true:=by
 simp only [cnt,List.countP_eq_zero,List.all_eq_true,Bool.not_eq_true',Bool.not_eq_false]
structure J (ins u:List (List Int)) (done:List Bool) (left:List Int):Prop where
 hd:done.length=ins.length
 hl:left.length=ins.length
 left:∀ k,k < ins.length->left[k]! =cnt done ins[k]!
structure U (ins u:List (List Int)):Prop where
 inb:inB ins.length ins
 len:∀ r∈ins,r.length < 2 ^ 61
 cnt:∀ k,k < ins.length->∀ j,j < ins.length->(u[k]!).count (j:Int)=(ins[j]!).count (k:Int)
 ub:∀ k,k < ins.length->∀ x∈u[k]!,0<=x/\x < (ins.length:Int)
theorem e1l {done:List Bool} {row:List Int}:cnt done row<=row.length:=List.countP_le_length
theorem J.step {ins u:List (List Int)} {done:List Bool} {left:List Int} (hU:U ins u) (h:J ins u done left) {i:Nat} (hi:i < ins.length) (hdi:done[i]! =false):J ins u (done.set i true) (c44 u[i]! left) where
 hd:=by simpa using h.hd
 hl:=by rw [c0n]; exact h.hl
 left k hk:=by
  have hrow:∀ k,k < ins.length->ins[k]! ∈ins:=fun k hk=>by simp [hk]
  have hset:∀ k,k < ins.length->cnt (done.set i true) ins[k]! +(ins[k]!).count (i:Int)=cnt done ins[k]! :=fun k hk=>c8t (by rw [h.hd]; exact hi) hdi (fun x hx=>by rw [h.hd]; exact hU.inb _ (hrow k hk) x hx)
  rw [c8w h.hl (hU.ub i hi) (fun k hk=> ?_) k hk,h.left k hk,hU.cnt i hi k hk]
  ·have:=hset k hk
   omega
  ·rw [h.left k hk,hU.cnt i hi k hk]
   have:=hset k hk
   have h2:=e1l (done:=done) (row:=ins[k]!)
   have h3:=hU.len _ (hrow k hk)
   omega
theorem b7z {ins u:List (List Int)} {done:List Bool} {left:List Int} (hJ:J ins u done left):∀ (m i:Nat) (f:Int),i+m=ins.length->
  (∀ k,a82 (done.drop i) (left.drop i) i=some k->(a46 done (ins.drop i) i f).1=k)/\(a82 (done.drop i) (left.drop i) i=none->a46 done (ins.drop i) i f=(-1,if f < 0/\0<=a3r false (done.drop i) i then a3r false (done.drop i) i else f))
 | 0,i,f,h=>by
  have h1:=hJ.hd
  have h2:=hJ.hl
  have d1:done.drop i=[]:=List.drop_eq_nil_of_le (by omega)
  have d2:left.drop i=[]:=List.drop_eq_nil_of_le (by omega)
  have d3:ins.drop i=[]:=List.drop_eq_nil_of_le (by omega)
  rw [d1,d2,d3]
  simp [a82,a46,a3r]
 | m+1,i,f,h=>by
  have h1:=hJ.hd
  have h2:=hJ.hl
  have hi:i < ins.length:=by omega
  have e1:done.drop i=done[i]! ::done.drop (i+1):=get!_drop (by omega)
  have e2:left.drop i=left[i]! ::left.drop (i+1):=get!_drop (by omega)
  have e3:ins.drop i=ins[i]! ::ins.drop (i+1):=get!_drop hi
  have e4:a3r false (done[i]! ::done.drop (i+1)) i=if false=done[i]! then (i:Int) else a3r false (done.drop (i+1)) (i+1):=rfl
  rw [e1,e2,e3,e4,a82,a46]
  by_cases hd:done[i]! =true
  ·rw [if_pos (.inl hd),if_pos hd,if_neg (show ¬ false=done[i]! by rw [hd]; simp)]
   exact b7z hJ m (i+1) f (by omega)
  ·have hd':done[i]! =false:=by simpa using hd
   have hdi:false=done[i]! :=hd'.symm
   rw [if_neg hd,if_pos hdi]
   have hl:=hJ.left i hi
   by_cases hc:cnt done ins[i]! =0
   ·rw [if_neg (by rintro (h | h); exact hd h; rw [hl,hc] at h; simp at h),if_pos (c5y.1 hc)]
    exact ⟨fun k hk=>by injection hk with hk; subst hk; rfl,fun hk=>by cases hk⟩
   ·rw [if_pos (.inr (by rw [hl]; omega)),if_neg (fun h=>hc (c5y.2 h))]
    obtain ⟨g1,g2⟩:=b7z hJ m (i+1) (if f < 0 then (i:Int) else f) (by omega)
    refine ⟨g1,fun hk=> ?_⟩
    rw [g2 hk]
    congr 1
    by_cases hf:f < 0
    ·rw [if_pos hf,if_neg (by omega),if_pos ⟨hf,by omega⟩]
    ·rw [if_neg hf,if_neg (by omega),if_neg (by omega)]
theorem b2n:∀ {l:List Bool} {i:Nat},(l.count false=0↔a3r false l i= -1)/\(l.count false≠0->0<=a3r false l i)
 | [],i=>by simp [a3r]
 | b::l,i=>by
  rw [a3r]
  cases b with
  | false=>rw [if_pos rfl]; simp
  | true=>rw [if_neg (by simp)]; simpa using b2n (l:=l) (i:=i+1)
theorem c22 {ins u:List (List Int)} (hU:U ins u):∀ (f:Nat) {done:List Bool} {left out:List Int},J ins u done left->done.count false=f->
  a9n ins f done out=if 0<=a3r false (a81 u f done left out).1 0 then .error (a3r false (a81 u f done left out).1 0) else .ok (a81 u f done left out).2
 | 0,done,left,out,hJ,hc=>by
  rw [a9n,a81]
  simp only
  rw [(b2n (l:=done) (i:=0)).1.1 hc]
  simp
 | f+1,done,left,out,hJ,hc=>by
  obtain ⟨g1,g2⟩:=b7z hJ ins.length 0 (-1) (by omega)
  simp only [List.drop_zero] at g1 g2
  have hidx:=(b2n (l:=done) (i:=0)).2 (by omega)
  rw [a9n,a81]
  cases hp:a82 done left 0 with
  | none=>
   rw [g2 hp]
   simp [hidx]
  | some i=>
   obtain ⟨_,hi,hdi⟩:=c0o hp
   simp only [Nat.sub_zero] at hi hdi
   have hcnt:=c29 hp
   rw [g1 i hp,if_neg (by omega)]
   simp only [Int.toNat_natCast]
   have hin:i < ins.length:=by rw [<-hJ.hd]; exact hi
   exact c22 hU f (hJ.step hU hin (by simpa [hi] using hdi)) (by omega)
theorem b2o {n i:Nat}:∀ {row:List Int} {u u':List (List Int)} {l l':List Int},a1w n i row u l=some (u',l')->u'.length=u.length/\l'.length=l.length
 | [],u,u',l,l',h=>by
  simp only [a1w,Option.some.injEq,Prod.mk.injEq] at h
  obtain ⟨rfl,rfl⟩:=h
  exact ⟨rfl,rfl⟩
 | x::xs,u,u',l,l',h=>by
  rw [a1w] at h
  split at h
  ·cases h
  ·obtain ⟨h1,h2⟩:=b2o h
   exact ⟨by simpa using h1,by simpa using h2⟩
theorem c0e {n:Nat}:∀ {rs:List (List Int)} {i:Nat} {u u':List (List Int)} {l l':List Int},a80 n rs i u l= .ok (u',l')->u.length=n->l.length=n->u'.length=n/\l'.length=n
 | [],i,u,u',l,l',h,hu,hl=>by
  simp only [a80,Except.ok.injEq,Prod.mk.injEq] at h
  obtain ⟨rfl,rfl⟩:=h
  exact ⟨hu,hl⟩
 | r::rs,i,u,u',l,l',h,hu,hl=>by
  rw [a80] at h
  cases hf:a1w n i r u l with
  | none=>rw [hf] at h; cases h
  | some p=>
   rw [hf] at h
   obtain ⟨h1,h2⟩:=b2o hf
   exact c0e h (h1.trans hu) (h2.trans hl)
theorem b86 {n i:Nat} (hi:i < n):∀ {row:List Int} {u u':List (List Int)} {l l':List Int},a1w n i row u l=some (u',l')->inB n u->inB n u'
 | [],u,u',l,l',h,hu=>by
  simp only [a1w,Option.some.injEq,Prod.mk.injEq] at h
  obtain ⟨rfl,rfl⟩:=h
  exact hu
 | x::xs,u,u',l,l',h,hu=>by
  rw [a1w] at h
  split at h
  ·cases h
  ·refine b86 hi h (c9k hu fun k hk=> ?_)
   rcases List.mem_append.1 hk with hk | hk
   ·by_cases hx:x.toNat < u.length
    ·simp [hx] at hk; exact hu _ (List.getElem_mem hx) k hk
    ·simp [hx] at hk
     have e:(default:List Int)=[]:=rfl
     rw [e] at hk
     simp at hk
   ·simp at hk; omega
theorem c89 {n:Nat}:∀ {rs:List (List Int)} {i:Nat} {u u':List (List Int)} {l l':List Int},a80 n rs i u l= .ok (u',l')->i+rs.length=n->u.length=n->l.length=n->inB n u->inB n u'
 | [],i,u,u',l,l',h,hi,hu,hl,hin=>by
  simp only [a80,Except.ok.injEq,Prod.mk.injEq] at h
  obtain ⟨rfl,rfl⟩:=h
  exact hin
 | r::rs,i,u,u',l,l',h,hi,hu,hl,hin=>by
  rw [a80] at h
  simp only [List.length_cons] at hi
  cases hf:a1w n i r u l with
  | none=>rw [hf] at h; cases h
  | some p=>
   rw [hf] at h
   obtain ⟨h1,h2⟩:=b2o hf
   exact c89 h (by omega) (h1.trans hu) (h2.trans hl) (b86 (by omega) hf hin)
theorem b1j {ins:List (List Int)} (hr:∀ r∈ins,r.length < 2 ^ 61):(∀ i g,a9i ins= .error (i,g)->b48 ins=([],(b61 g,true,i))/\g < 21)/\(∀ out,a9i ins= .ok out->b48 ins=(out,(0,false,0))):=by
 unfold a9i b48
 obtain ⟨b1,b2⟩:=c52 (n:=ins.length) (rs:=ins) (i:=0) (u:=List.replicate ins.length []) (l:=List.replicate ins.length 0)
 cases hb:c3g ins.length ins 0 with
 | some k=>
  rw [b1 k hb]
  refine ⟨fun i g h=> ?_,fun out h=>by cases h⟩
  simp only [Except.error.injEq,Prod.mk.injEq] at h
  obtain ⟨rfl,rfl⟩:=h
  exact ⟨rfl,by omega⟩
 | none=>
  obtain ⟨⟨u,l⟩,hp⟩:=b2 hb
  rw [hp]
  have hin:=b30 hb
  obtain ⟨c1,c2⟩:=c53 hp (by simp) (by simp) (by simp) (fun k hk=>by rw [get!_rep hk]; omega) (fun k hk _=>get!_rep hk) hr
  have hU:U ins u:={
   inb:=hin,len:=hr
   cnt:=fun k hk j hj=>by rw [c1 k hk j hj,get!_rep hk]; simp
   ub:=fun k hk x hx=>c89 hp (by simp) (by simp) (by simp) (fun r hr=>by rw [List.eq_of_mem_replicate hr]; simp) _ (by
    have:=(c0e hp (by simp) (by simp)).1
    simp [this,hk]) x hx }
  have hJ:J ins u (List.replicate ins.length false) l:={
   hd:=by simp,hl:=(c0e hp (by simp) (by simp)).2
   left:=fun k hk=>by
    rw [c2 k hk,get!_rep hk]
    simp only [Nat.zero_le,if_true,Nat.sub_zero,Int.zero_add,cnt]
    congr 1
    symm
    rw [List.countP_eq_length]
    intro x hx
    have:=hin _ (show ins[k]! ∈ins by simp [hk]) x hx
    rw [get!_rep (by omega)]; rfl }
  have:=c22 hU ins.length (out:=[]) hJ (by simp)
  simp only at this ⊢
  rw [this]
  by_cases h0:0<=a3r false (a81 u ins.length (List.replicate ins.length false) l []).1 0
  ·rw [if_pos h0,if_pos h0]
   refine ⟨fun i g h=> ?_,fun out h=>by cases h⟩
   simp only [Except.error.injEq,Prod.mk.injEq] at h
   obtain ⟨rfl,rfl⟩:=h
   exact ⟨rfl,by omega⟩
  ·rw [if_neg h0,if_neg h0]
   refine ⟨fun i g h=>(by cases h),fun out h=> ?_⟩
   simp only [Except.ok.injEq] at h
   subst h
   rfl
structure Ordered (ins:List (List Int)) (done:List Bool) (out:List Int):Prop where
 hd:done.length=ins.length
 nd:out.Nodup
 mem:∀ x,x < ins.length->(done[x]! =true↔(x:Int)∈out)
 rng:∀ x∈out,0<=x/\x < (ins.length:Int)
 beh:∀ p,p < out.length->∀ y∈ins[(out[p]!).toNat]!,y∈out.take p
theorem b74 {ins:List (List Int)} {done:List Bool}:∀ {rs:List (List Int)} {k:Nat} {f:Int},ins.drop k=rs->0<=(a46 done rs k f).1->done[(a46 done rs k f).1.toNat]! =false/\ins[(a46 done rs k f).1.toNat]!.all (fun x=>done[x.toNat]!)=true
 | [],k,f,h,h0=>by simp [a46] at h0
 | r::rs,k,f,h,h0=>by
  have hk:k < ins.length:=by
   by_cases hk:k < ins.length
   ·exact hk
   ·rw [List.drop_eq_nil_of_le (by omega)] at h; cases h
  rw [get!_drop hk] at h
  injection h with h1 h2
  rw [a46] at h0 ⊢
  split at h0
  ·rename_i hd
   rw [if_pos hd]
   exact b74 h2 h0
  ·rename_i hd
   rw [if_neg hd]
   split at h0
   ·rename_i ha
    rw [if_pos ha]
    simp only [Int.toNat_natCast]
    rw [h1]
    exact ⟨by simpa using hd,ha⟩
   ·rename_i ha
    rw [if_neg ha]
    exact b74 h2 h0
theorem b34 {ins:List (List Int)} (hin:inB ins.length ins):∀ (f:Nat) {done:List Bool} {out res:List Int},Ordered ins done out->done.count false=f->a9n ins f done out= .ok res->
  res.Nodup/\(∀ x,x < ins.length->(x:Int)∈res)/\(∀ x∈res,0<=x/\x < (ins.length:Int))/\∀ p,p < res.length->∀ y∈ins[(res[p]!).toNat]!,y∈res.take p
 | 0,done,out,res,h,hc,hl=>by
  simp only [a9n,Except.ok.injEq] at hl
  subst hl
  refine ⟨h.nd,fun x hx=>(h.mem x hx).1 ?_,h.rng,h.beh⟩
  rw [List.count_eq_zero] at hc
  have hxd:x < done.length:=by rw [h.hd]; exact hx
  simp only [hxd,getElem!_pos]
  cases hv:done[x] with
  | true=>rfl
  | false=>exact absurd (by rw [<-hv]; exact List.getElem_mem hxd) hc
 | f+1,done,out,res,h,hc,hl=>by
  rw [a9n] at hl
  split at hl
  ·cases hl
  ·rename_i hnx
   obtain ⟨g1,g2⟩:=b74 (ins:=ins) (done:=done) (rs:=ins) (k:=0) (f:= -1) rfl (by omega)
   have hrng:=b31 (done:=done) (rs:=ins) (k:=0) (f:= -1)
   generalize (a46 done ins 0 (-1)).1=nx at hl g1 g2 hnx hrng
   have hn:nx.toNat < ins.length:=by omega
   have hnd:nx.toNat < done.length:=by rw [h.hd]; exact hn
   have e:(nx.toNat:Int)=nx:=by omega
   have hni:nx ∉ out:=fun hm=>by
    rw [<-e] at hm
    rw [(h.mem _ hn).2 hm] at g1
    cases g1
   refine b34 hin f (done:=done.set nx.toNat true) (out:=out++[nx]) ?_ ?_ hl
   ·refine ⟨by simpa using h.hd,?_,fun x hx=> ?_,fun x hx=> ?_,fun p hp y hy=> ?_⟩
    ·rw [List.nodup_append]
     exact ⟨h.nd,by simp,fun a ha b hb hab=>by simp at hb; subst hb; subst hab; exact hni ha⟩
    ·rw [get!_set hnd]
     by_cases hxn:x=nx.toNat
     ·subst hxn; simp [e]
     ·rw [if_neg hxn,h.mem x hx]
      simp only [List.mem_append,List.mem_cons,List.not_mem_nil,or_false]
      exact ⟨.inl,fun hh=>hh.elim id fun hh=>absurd (by omega) hxn⟩
    ·rcases List.mem_append.1 hx with hx | hx
     ·exact h.rng x hx
     ·simp at hx; omega
    ·rw [List.length_append] at hp
     simp only [List.length_cons,List.length_nil] at hp
     by_cases hpo:p < out.length
     ·have e1:(out++[nx])[p]! =out[p]! :=by simp [hpo,List.getElem?_append_left]
      rw [e1] at hy
      rw [List.take_append_of_le_length (by omega)]
      exact h.beh p hpo y hy
     ·have hpe:p=out.length:=by omega
      subst hpe
      have e1:(out++[nx])[out.length]! =nx:=by simp
      rw [e1] at hy
      rw [List.take_left]
      rw [List.all_eq_true] at g2
      have hy2:=g2 y hy
      have hyr:=hin _ (show ins[nx.toNat]! ∈ins by simp [hn]) y hy
      have:=(h.mem y.toNat (by omega)).1 hy2
      rwa [show (y.toNat:Int)=y by omega] at this
   ·have hc2:(done.set nx.toNat true).count false+1=done.count false:=by
     have e2:done=done.take nx.toNat++false::done.drop (nx.toNat+1):=by
      conv=>lhs; rw [<-List.take_append_drop nx.toNat done,get!_drop hnd,g1]
     have e3:done.set nx.toNat true=done.take nx.toNat++true::done.drop (nx.toNat+1):=by
      rw [List.set_eq_take_append_cons_drop,if_pos hnd]
     rw [e3]
     conv=>rhs; rw [e2]
     simp
     omega
    omega
theorem a5i {ins:List (List Int)} (hr:∀ r∈ins,r.length < 2 ^ 61) {out:List Int} (h:a9i ins= .ok out) :
  out.Nodup/\(∀ x,x < ins.length->(x:Int)∈out)/\(∀ x∈out,0<=x/\x < (ins.length:Int))/\(∀ p,p < out.length->∀ y∈ins[(out[p]!).toNat]!,y∈out.take p)/\inB ins.length ins:=by
 have h2:=(b1j hr).2 out h
 unfold b48 at h2
 cases hb:c3g ins.length ins 0 with
 | some k=>rw [hb] at h2; simp at h2
 | none=>
  rw [hb] at h2
  simp only at h2
  have hin:=b30 hb
  cases hl:a9n ins ins.length (List.replicate ins.length false) [] with
  | error f=>rw [hl] at h2; simp at h2
  | ok out2=>
   rw [hl] at h2
   simp only [Prod.mk.injEq,and_true] at h2
   subst h2
   obtain ⟨a,b,c,d⟩:=b34 hin ins.length (done:=List.replicate ins.length false) (out:=[]) ⟨by simp,by simp,fun x hx=>by rw [get!_rep hx]; simp,fun x hx=>by simp at hx,fun p hp=>by simp at hp⟩ (by simp) hl
   exact ⟨a,b,c,d,hin⟩
theorem c3h {ins:List (List Int)}:∀ (f:Nat) {done:List Bool} {out res:List Int},a9n ins f done out= .ok res->res.length=out.length+f
 | 0,done,out,res,h=>by
  simp only [a9n,Except.ok.injEq] at h
  rw [h]; rfl
 | f+1,done,out,res,h=>by
  rw [a9n] at h
  split at h
  ·cases h
  ·have:=c3h f h
   simp only [List.length_append,List.length_cons,List.length_nil] at this
   omega
theorem b7x {ins:List (List Int)} (hr:∀ r∈ins,r.length < 2 ^ 61) {out:List Int} (h:a9i ins= .ok out):out.length=ins.length:=by
 have h2:=(b1j hr).2 out h
 unfold b48 at h2
 cases hb:c3g ins.length ins 0 with
 | some k=>rw [hb] at h2; simp at h2
 | none=>
  rw [hb] at h2
  simp only at h2
  cases hl:a9n ins ins.length (List.replicate ins.length false) [] with
  | error f=>rw [hl] at h2; simp at h2
  | ok out2=>
   rw [hl] at h2
   simp only [Prod.mk.injEq,and_true] at h2
   subst h2
   have:=c3h _ hl
   simpa using this
end Go.Ideal.Tryz
end
section
namespace Go.Ideal
open Go.ChangeShapes Go.RowKit Classical
section
variable {H:Type} {e:TypeId×Value->H} {P:Program} {w:World}
def Rd (e:TypeId×Value->H) (P:Program) (w:World) (T:Type) (t:TypeId) (enc:T->List AV) (ok:T->Prop):Prop:=
 ∀ (fuel:Nat) (cs:List Value) (d:DataW H) (ps:List MemPlace),DataW.trod e P w 0 (fun _=>true) true fuel t cs=some (d,ps)->(d.weights P t).all (· <=reachBytes)=true->∃ x,ok x/\RL w (fun b=>b < w.heap.size) (enc x) noQ noB cs/\C1 cs
theorem b3c {M:BS} {k:AV} {v:Value} (h:R w M k noQ noB v):RL w M [k] noQ noB [v]:=by
 simp only [RL]
 exact ⟨v,[],rfl,noB,noB,fun _ h=>h,fun _ h=>h,fun _ h=>h.elim,h,rfl⟩
theorem Rd.int {t:TypeId} (ht:P.underlying t=some (.int .i64)):Rd e P w Int t (fun n=>[.lit (.int .i64 n)]) (fun n=> -9223372036854775808<=n/\n<=9223372036854775807):=by
 intro fuel cs d ps h hw
 obtain ⟨n,rfl,h1,h2⟩:=DataW.trod_int ht h
 refine ⟨n,?_,b3c (by simp only [R]),fun u hu=>by simp at hu; subst hu; rfl⟩
 simp only [Lit.wf,decide_eq_true_eq,Bool.and_eq_true] at h2
 first | exact h2 | (obtain ⟨a,b⟩:=h2; simp [IntKind.wrap_i64] at *; omega)
theorem Rd.bool {t:TypeId} (ht:P.underlying t=some .bool):Rd e P w Bool t (fun n=>[.lit (.bool n)]) (fun _=>True):=by
 intro fuel cs d ps h hw
 obtain ⟨n,rfl,h1⟩:=DataW.trod_bool ht h
 exact ⟨n,trivial,b3c (by simp only [R]),fun u hu=>by simp at hu; subst hu; rfl⟩
theorem b2f {u:TypeId} {p:Nat->Bool}:∀ {ds:List (DataW H)},(DataW.weightsAll P u ds).all p=true->∀ d∈ds,(d.weights P u).all p=true
 | [],_,d,hd=>by simp at hd
 | x::xs,h,d,hd=>by
  simp only [DataW.weightsAll,List.all_append,Bool.and_eq_true] at h
  rcases List.mem_cons.1 hd with rfl | hd
  ·exact h.1
  ·exact b2f h.2 d hd
theorem cells?_cell {a:Addr} {n:Nat} {cs:List Value} (h:w.cells? 0 a n=some cs):cs.length=n/\∀ i u,cs[i]? =some u->w.cell? (a.add i)=some u:=by
 unfold World.cells? at h
 rw [if_pos (Nat.zero_le _)] at h
 have key:∀ (l:List Nat) (r:List Value),l.mapM (fun i=>w.cell? (a.add i))=some r->r.length=l.length/\∀ (i j:Nat) (u:Value),l[i]? =some j->r[i]? =some u->w.cell? (a.add j)=some u:=by
  intro l
  induction l with
  | nil=>intro r h; simp at h; subst h; exact ⟨rfl,fun i j u hi=>by simp at hi⟩
  | cons x l ih=>
   intro r h
   simp only [List.mapM_cons,Option.bind_eq_bind,Option.pure_def,Option.bind_eq_some_iff,Option.some.injEq] at h
   obtain ⟨y,hy,ys,hys,rfl⟩:=h
   obtain ⟨h1,h2⟩:=ih ys hys
   refine ⟨by simp [h1],fun i j u hi hu=> ?_⟩
   cases i with
   | zero=>simp at hi hu; subst hi; subst hu; exact hy
   | succ i=>exact h2 i j u (by simpa using hi) (by simpa using hu)
 obtain ⟨h1,h2⟩:=key _ _ h
 refine ⟨by simpa using h1,fun i u hu=>h2 i i u ?_ hu⟩
 have:i < cs.length:=(List.getElem?_eq_some_iff.1 hu).1
 rw [h1] at this
 simp at this
 simp [this]
theorem c1s (a:Addr):a.add 0=a:=by simp [Addr.add]
theorem d1l (b o i:Nat):(⟨b,o,none⟩:Addr).add i=⟨b,o+i,none⟩:=by
 simp only [Addr.add]; split
 ·subst_vars; rfl
 ·rfl
theorem d5b (a:Addr) (m i:Nat):(a.add m).add i=a.add (m+i):=by
 obtain ⟨b,o,s⟩:=a
 simp only [Addr.add]
 by_cases h1:m=0
 ·subst h1; simp
 ·by_cases h2:i=0
  ·subst h2; simp [h1]
  ·simp [h1,h2,Nat.add_assoc]
theorem Rd.slice {t u:TypeId} {T:Type} {enc:T->List AV} {ok:T->Prop} (ht:P.underlying t=some (.slice u)) (hb:0 < P.bytesOf u) (h:Rd e P w T u enc ok) (hlen:∀ x,(enc x).length=P.cellsOf u) :
  Rd e P w (List T) t (fun xs=>[.sl xs.length (xs.flatMap enc)]) (fun xs=>xs.length<=reachBytes/\∀ x∈xs,ok x):=by
 intro fuel cs d ps hd hw
 rcases DataW.trod_slice ht hd with ⟨rfl,_⟩ | ⟨a,len,cap,elems,rest,n,_,rfl,hx,_,hlc,_,hel,hi,_⟩
 ·refine ⟨[],⟨by simp [reachBytes],fun x hx=>by simp at hx⟩,b3c ?_,fun u hu=>by simp at hu; subst hu; rfl⟩
  simp only [R,RL,List.flatMap_nil,List.length_nil]
  exact ⟨none,0,rfl,Nat.le_refl _,[],fun _ h=>by simp at h,rfl,.inl rfl⟩
 ·simp only [Prod.mk.injEq] at hx
  obtain ⟨rfl,_⟩:=hx
  simp only [DataW.weights,ht,List.all_cons,List.all_append,Bool.and_eq_true,decide_eq_true_eq,List.length_map] at hw
  obtain ⟨w1,w2,_⟩:=hw
  have hm:∀ m,m<=len->∃ xs:List T,xs.length=m/\(∀ x∈xs,ok x)/\∃ vs,vs.length=m*P.cellsOf u/\RL w (fun b=>b < w.heap.size) (xs.flatMap enc) noQ noB vs/\C1 vs/\∀ i v,vs[i]? =some v->w.cell? (a.add i)=some v:=by
   intro m
   induction m with
   | zero=>intro _; exact ⟨[],rfl,fun x hx=>by simp at hx,[],by simp,by simp [RL],fun _ h=>by simp at h,fun i v hv=>by simp at hv⟩
   | succ m ih=>
    intro hml
    obtain ⟨xs,l1,ok1,vs,l2,r1,c1,cell1⟩:=ih (by omega)
    have hmi:=hi m (by omega)
    have hme:elems[m]? =some elems[m]:=by simp [show m < elems.length by omega]
    rw [hme] at hmi
    cases hc:w.cells? 0 (a.add (m*P.cellsOf u)) (P.cellsOf u) with
    | none=>rw [hc] at hmi; cases hmi
    | some cs=>
     rw [hc] at hmi
     simp only [Option.bind_some] at hmi
     obtain ⟨x,okx,rx,cx⟩:=h n cs elems[m].1 elems[m].2 hmi (b2f w2 _ (List.mem_map.2 ⟨_,List.getElem_mem _,rfl⟩))
     obtain ⟨g1,g2⟩:=cells?_cell hc
     refine ⟨xs++[x],by simp [l1],fun y hy=> ?_,vs++cs,by rw [List.length_append,l2,g1,Nat.add_mul,Nat.one_mul],?_,fun y hy=> ?_,fun i v hv=> ?_⟩
     ·rcases List.mem_append.1 hy with hy | hy
      ·exact ok1 y hy
      ·simp at hy; subst hy; exact okx
     ·rw [List.flatMap_append]
      simp only [List.flatMap_cons,List.flatMap_nil,List.append_nil]
      exact a24 (fun b hb=>hb.elim (fun h=>h) fun h=>h) (a2k r1 rx fun b hb=>hb.elim)
     ·rcases List.mem_append.1 hy with hy | hy
      ·exact c1 y hy
      ·exact cx y hy
     ·by_cases hiv:i < vs.length
      ·rw [List.getElem?_append_left hiv] at hv
       exact cell1 i v hv
      ·rw [List.getElem?_append_right (by omega)] at hv
       have:=g2 _ v hv
       have e:(a.add (m*P.cellsOf u)).add (i - vs.length)=a.add i:=by
        rw [d5b]
        congr 1
        rw [l2] at hiv ⊢
        omega
       rw [e] at this
       exact this
  obtain ⟨xs,l1,ok1,vs,l2,r1,c1,cell1⟩:=hm len (Nat.le_refl _)
  refine ⟨xs,⟨?_,ok1⟩,b3c ?_,fun y hy=>by simp at hy; subst hy; rfl⟩
  ·rw [l1,<-hel]
   have:elems.length<=(elems.length+rest.length)*P.bytesOf u:=by
    calc elems.length<=elems.length+rest.length:=Nat.le_add_right _ _
     _=(elems.length+rest.length)*1:=(Nat.mul_one _).symm
     _<=_:=Nat.mul_le_mul_left _ hb
   omega
  ·simp only [R]
   refine ⟨some a,cap,by rw [l1],by omega,vs,c1,r1,?_⟩
   cases vs with
   | nil=>exact .inl rfl
   | cons v0 vs'=>
    have h0:=cell1 0 v0 rfl
    obtain ⟨b,o,sp⟩:=a
    have hsp:sp=none:=by
     cases sp with
     | none=>rfl
     | some s=>rw [c1s] at h0; simp [World.cell?] at h0; split at h0<;>cases h0
    subst hsp
    refine .inr ⟨b,o,rfl,?_,fun i u hu=> ?_⟩
    ·by_cases hbs:b < w.heap.size
     ·exact hbs
     ·rw [c1s] at h0
      simp only [World.cell?] at h0
      rw [show w.heap[b]? =none by simp; omega] at h0
      cases h0
    ·have:=cell1 i u hu
     rw [d1l] at this
     exact this
theorem Rd.slice1 {t u:TypeId} {T:Type} {enc:T->AV} {ok:T->Prop} (ht:P.underlying t=some (.slice u)) (hb:0 < P.bytesOf u) (hc:P.cellsOf u=1) (h:Rd e P w T u (fun x=>[enc x]) ok) :
  Rd e P w (List T) t (fun xs=>[.sl xs.length (xs.map enc)]) (fun xs=>xs.length<=reachBytes/\∀ x∈xs,ok x):=by
 have:=Rd.slice ht hb h (fun x=>by simp [hc])
 intro fuel cs d ps h1 h2
 obtain ⟨x,a,b,c⟩:=this fuel cs d ps h1 h2
 refine ⟨x,a,?_,c⟩
 have e1:∀ l:List T,l.flatMap (fun x=>[enc x])=l.map enc:=fun l=>by induction l<;>simp_all
 simp only [e1] at b
 exact b
end
theorem c2q {P:Program} {G:GG} {f:FuncId} {W:World} {args:Array Value} {pre:List AV} (hA:ACalls P G f pre (.lit (.bool true))) (hsz:args.size=pre.length) (hG:∀ g v,G.at g v->GC G W g v/\g < W.heap.size)
  (hpre:∀ i av,pre[i]? =some av->R W (fun b=>b < W.heap.size) av noQ noB (args.getD i undef)):Calls P f args W (fun e W'=>e= .returned (.bool true)/\Below W.heap.size W W'):=by
 refine (hA W args (fun b=>b < W.heap.size) (fun _=>none) hsz (fun b hb=>⟨hb,rfl⟩) (fun b i hb=>by cases hb) (fun g v hg=>⟨(hG g v hg).1,(hG g v hg).2,rfl⟩) (fun i av hi=> ?_)).mono ?_
 ·exact a2t (fun b hb=>hb.elim) (hpre i av hi)
 ·rintro ex W' ⟨v,rfl,hr⟩
  obtain ⟨F,_,hv⟩:=hr.own
  simp only [R] at hv
  subst hv
  exact ⟨rfl,hr.os,hr.tape,hr.output,hr.le,fun k hk=>hr.frame k hk (by simp)⟩
section
variable {H:Type} {enc:TypeId×Value->H} {P:Program}
theorem b4h (hl:laidOutB P=true) {W W':World} (hb:Below W.heap.size W W') {sp:Nat->Bool}:∀ {ts:List TypeId} {vs:List Value} {ds:List (DataW H)} {ps:List MemPlace},(∀ t∈ts,P.readableRec t=true/\t < P.types.size)->DataW.TrodAll enc P W 0 (fun _=>true) true ts vs ds ps->
  (∀ x∈ps,x.block < W.heap.size)->(∀ x∈ps,sp x.block=true)->DataW.TrodAll enc P W' 0 sp true ts vs ds ps
 | [],_,_,_,_,h,_,_=>by
  obtain ⟨rfl,rfl,rfl⟩:=trodAll_nil h
  exact trodAll_mk0
 | t::ts,_,_,_,ht,h,hlt,hsp=>by
  obtain ⟨v,vs,d,ds,p,q,rfl,rfl,rfl,h1,h2⟩:=trodAll_cons h
  exact ⟨p,q,WideElems.Trod_stays hl (ht t (by simp)).1 (ht t (by simp)).2 h1 (fun x hx=>hb.same (hlt x (by simp [hx]))) (fun x hx=>hsp x (by simp [hx])),
   b4h hl hb (fun u hu=>ht u (by simp [hu])) h2 (fun x hx=>hlt x (by simp [hx])) (fun x hx=>hsp x (by simp [hx])),rfl⟩
theorem c6d {f:Func} {s:ChangeSpec} {apart fresh handsOn again:Bool} {W W':World} {args:Array Value} {ds gs:List (DataW H)} {before:List MemPlace} {tb:TypeId}
  (hl:laidOutB P=true) (ht:∀ t∈f.params.toList,P.readableRec t=true/\t < P.types.size) (hr:f.resultTypes=#[tb]) (htb:P.underlying tb=some .bool) (hvars:s.vars=[]) (hfn:s.fn H (ds++[])={ results:=[.lit (.bool true)],args:=ds })
  (hW:DataW.Whole enc P f.params.toList s.vars apart W args.toList ds gs before) (hb:Below W.heap.size W W'):s.post enc P f apart fresh handsOn again W args (.bool true) W':=by
 have hW0:=hW
 obtain ⟨p,q,hA,hV,hpq,hz,hn⟩:=hW
 rw [hvars] at hV
 obtain ⟨rfl,rfl⟩:=trodVars_none hV
 have hp:before=p:=by simpa using hpq
 subst hp
 have hlt:∀ x∈before,x.block < W.heap.size:=fun x hx=>hW0.lt x hx
 have hargs:∀ sp:Nat->Bool,(∀ p∈before,sp p.block=true)->DataW.TrodAll enc P W' 0 sp true f.params.toList args.toList ds before:=fun sp hsp=>b4h hl hb ht hA hlt hsp
 have hres:∀ (b:Nat) (sp:Nat->Bool) (hd:Bool),DataW.TrodAll enc P W' b sp hd f.resultTypes.toList ((Value.bool true).resultList f.resultTypes.size) [.lit (.bool true)] []:=fun b sp hd=>by
  rw [hr]; exact trodAll_mk1 (shut_bool htb true)
 have hv0:∀ sp:Nat->Bool,DataW.TrodVars enc P W' sp s.vars [] []:=fun sp=>by rw [hvars]; rfl
 refine ⟨ds,[],before,[],before,[],hW0,?_,?_,?_,World.keptBut_mono (fun p hp=>⟨hp,Or.inr (Or.inl hp)⟩) (hb.frame _),fun _=> ?_⟩
 ·rw [hfn]; exact hres _ _ _
 ·rw [hfn]; exact hargs _ fun x hx=>by simpa using hlt x hx
 ·rw [hfn]; exact hv0 _
 ·refine ⟨ok_one hr rfl (by unfold Value.okWide; rw [htb]; simp [Cell.okWide,Cell.ok,htb]),[.lit (.bool true)]++ds,[],([]++before)++[],⟨[]++before,[],trodAll_append (hargs _ fun _ _=>rfl) (hres _ _ _),hv0 _,rfl,?_,?_⟩,?_⟩
  ·intro b off hp
   have hp':MemPlace.cell b off∈before:=by simpa using hp
   rw [hb.frozen (p:=⟨b,off,none⟩) (hlt _ hp')]
   exact hz b off hp'
  ·intro ha
   simpa using hn ha
  ·intro p hp _
   simpa using hp
end
end Go.Ideal
end
section
namespace Go.Ideal.Tryz
open Go.ChangeShapes Go.RowKit Classical
def d08:DataW Unit->Option (List UInt8)
 | .iface n (.ptr (.agg [.lit (.string s)])) => if n == "*errors.errorString" then some s else none
 | _=>none
theorem c5n {d : DataW Unit} {s : List UInt8} (h : d08 d = some s) : d = .iface "*errors.errorString" (.ptr (.agg [.lit (.string s)])) := by
 unfold d08 at h
 split at h
 ·split at h
  ·rename_i hn
   simp only [beq_iff_eq] at hn
   injection h with h
   rw [hn,h]
  ·cases h
 ·cases h
noncomputable def b9r (laid:List (String×DataW Unit)) (g:Nat):Option (List UInt8):=laid.findSome? fun x=>if pg.globalNamed x.1==some g then d08 x.2 else none
noncomputable def d0x (L:List Nat) (laid:List (String×DataW Unit)):Bool:=L.all fun g=>(b9r laid g).isSome&&L.all fun h=>g==h|| !(b9r laid g==b9r laid h)
abbrev c5j:List Nat:=[0,1,2,3,4,5,6,7,8,10,11,12,13,14,15,16,17,18,19,20,21]
noncomputable def d7m (laid:List (String×DataW Unit)):Bool:=d0x c5j laid
theorem b5i {W:World}:∀ {laid:List (String×DataW Unit)} {ps:List MemPlace},DataW.LaidVars pg W laid ps->∀ x∈laid,∃ g t cs fuel p,pg.globalNamed x.1=some g/\(pg.globals[g]?).map (·.type)=some t/\W.var? pg x.1=some cs/\
  DataW.trod (fun _=>()) pg W 0 (fun _=>true) false fuel t cs.toList=some (x.2,p)/\(∀ y∈MemPlace.row ⟨g,0,none⟩ cs.size++p,y∈ps)
 | [],_,_,x,hx=>by simp at hx
 | (n,d)::r,ps,h,x,hx=>by
  obtain ⟨g,t,cs,fuel,p,q,h1,h2,h3,h4,h5,rfl⟩:=h
  rcases List.mem_cons.1 hx with rfl | hx
  ·exact ⟨g,t,cs,fuel,p,h1,h2,h3,h4,fun y hy=>List.mem_append_left _ hy⟩
  ·obtain ⟨g',t',cs',f',p',k1,k2,k3,k4,k5⟩:=b5i h5 x hx
   exact ⟨g',t',cs',f',p',k1,k2,k3,k4,fun y hy=>List.mem_append_right _ (k5 y hy)⟩
theorem f0i:(c5j.all fun g=>(pg.globals[g]?).map (·.type)==some 35)=true:=by kernel_rfl
theorem f6m:∃ ms,pg.underlying 35=some (.interface ms):=by
 have h:(match pg.underlying 35 with | some (.interface _)=>true | _=>false)=true:=by kernel_rfl
 split at h
 ·rename_i ms hm; exact ⟨ms,hm⟩
 ·cases h
theorem f2d (u : TypeId) (hu : pg.typeName? 3 u = some "*errors.errorString") : u = 230 :=
 typeName_ptr_named (nm := "errors.errorString") (by kernel_rfl) (by kernel_rfl) (by decide) u hu
theorem f2x:pg.underlying 230=some (.pointer 252):=by kernel_rfl
theorem f2y:∃ f:Field,pg.underlying 252=some (.struct #[f])/\f.offset=0/\pg.underlying f.type=some .string/\pg.cellsOf f.type=1:=by
 have h:(match pg.underlying 252 with | some (.struct fs)=>fs.size==1&&fs.all (fun f=>f.offset==0&&(match pg.underlying f.type with | some .string=>true | _=>false)&&pg.cellsOf f.type==1) | _=>false)=true:=by kernel_rfl
 split at h
 ·rename_i fs hm
  simp only [Bool.and_eq_true,beq_iff_eq] at h
  obtain ⟨h1,h2⟩:=h
  obtain ⟨f,hf⟩:∃ f,fs=#[f]:=by
   obtain ⟨l⟩:=fs
   match l,h1 with
   | [f],_=>exact ⟨f,rfl⟩
  subst hf
  simp at h2
  refine ⟨f,hm,h2.1.1,?_,h2.2⟩
  have:=h2.1.2
  split at this
  ·assumption
  ·cases this
 ·cases h
theorem d1w:pg.cellsOf 252=1:=by kernel_rfl
theorem c00 {L:List Nat} (hL:∀ g∈L,g∈c5j) {hs:List (Nat×Value)} {laid:List (String×DataW Unit)} {W:World} (h:laidMet pg laid W) (hc:d0x L laid=true) (hhs:∀ p∈hs,p.1 < W.heap.size/\∃ cur T fz,W.heap[p.1]? =some (.cells cur T fz)/\cur[0]? =some p.2):∃ (G:GG) (bk:Nat->Nat×Nat),G.hs=hs/\((∀ g,g∈L->G g=some (.iface c8k (.pointer (some ⟨(bk g).1,(bk g).2,none⟩))))/\(∀ g,g∈L->(G (bk g).1).isSome=true)/\(∀ g h,g∈L->h∈L->bk g=bk h->g=h))/\∀ g v,G.at g v->GC G W g v/\g < W.heap.size:=by
 obtain ⟨ps,hl,_,hp⟩:=h
 simp only [d0x,List.all_eq_true,Bool.and_eq_true,Bool.or_eq_true,beq_iff_eq,Bool.not_eq_true',beq_eq_false_iff_ne,ne_eq] at hc
 have key:∀ g,∃ y:Addr×ByteArray,g∈L->(∃ c t,W.heap[g]? =some (.cells c t (0,0))/\c[0]? =some (.iface 230 (.pointer (some y.1))))/\W.cell? y.1=some (.string y.2)/\b9r laid g=some y.2.data.toList/\(∃ c t,W.heap[y.1.block]? =some (.cells c t (0,0))):=by
  intro g
  by_cases hg:g∈L
  ·obtain ⟨text,ht⟩:=Option.isSome_iff_exists.1 (hc g hg).1
   have ht0:=ht
   unfold b9r at ht
   rw [List.findSome?_eq_some_iff] at ht
   obtain ⟨l1,x,l2,hx,hxs,_⟩:=ht
   split at hxs
   ·rename_i hgn
    simp only [beq_iff_eq] at hgn
    obtain ⟨g',t,cs,fuel,p,h1,h2,h3,h4,h5⟩:=b5i hl x (by rw [hx]; simp)
    obtain rfl:g'=g:=by rw [hgn] at h1; injection h1 with h1; exact h1.symm
    have ht26:t=35:=by
     have:=List.all_eq_true.1 f0i g' (hL _ hg)
     simp only [beq_iff_eq] at this
     rw [this] at h2
     injection h2 with h2
     exact h2.symm
    subst ht26
    rw [c5n hxs] at h4
    obtain ⟨ms,hms⟩:=f6m
    obtain ⟨f,hf1,hf2,hf3,hf4⟩:=f2y
    have hvar:∃ t0 fz,W.heap[g']? =some (.cells cs t0 fz):=by
     unfold World.var? at h3
     rw [h1] at h3
     simp only [Option.bind_some] at h3
     split at h3
     ·rename_i c t0 fz hh
      injection h3 with h3
      subst h3
      exact ⟨_,_,hh⟩
     ·cases h3
    obtain ⟨t0,fz,hh⟩:=hvar
    have hg0:∀ u v,cs.toList=[.iface u v]->MemPlace.cell g' 0∈ps/\W.cell? ⟨g',0,none⟩=some (.iface u v):=by
     intro u v hcs
     have hsz:cs.size=1:=by have:=congrArg List.length hcs; simpa using this
     refine ⟨h5 _ (List.mem_append_left _ (by rw [hsz]; simp [MemPlace.row])),?_⟩
     simp only [World.cell?,hh]
     have:cs[0]? =some (.iface u v):=by
      have:=congrArg (·[0]?) hcs
      simpa using this
     simpa using this
    obtain ⟨a,s,e1,e2,e3,_,e5⟩:=errorString_of_trod hms f2d f2x hf1 rfl hf2 hf3 d1w hf4 h4 (fun u v hcs=>by
     obtain ⟨m1,m2⟩:=hg0 u v hcs
     exact (hp _ _ m1).2 u v m2)
    refine ⟨(a,s),fun _=>⟨?_,e2,?_,?_⟩⟩
    ·obtain ⟨m1,m2⟩:=hg0 _ _ e1
     obtain ⟨⟨c,t1,hc1⟩,_⟩:=hp _ _ m1
     refine ⟨c,t1,hc1,?_⟩
     rw [hc1] at hh
     simp only [Option.some.injEq,Obj.cells.injEq] at hh
     obtain ⟨rfl,_,_⟩:=hh
     have:=congrArg (·[0]?) e1
     simpa using this
    ·rw [ht0,e3]
    ·have:=h5 _ (List.mem_append_right _ (show MemPlace.cell a.block (a.off+0)∈p by rw [e5]; simp [MemPlace.row]))
     exact (hp _ _ this).1
   ·cases hxs
  ·exact ⟨default,fun h=>absurd h hg⟩
 obtain ⟨y,hy⟩:=Classical.axiomOfChoice key
 let bk:Nat->Nat×Nat:=fun g=>((y g).1.block,(y g).1.off)
 let Gf:Nat->Option Value:=fun b=>if b∈L\/∃ g,g∈L/\(bk g).1=b then (match W.heap[b]? with | some (.cells c _ _)=>c[0]? | _=>none) else none
 have hspot:∀ g,g∈L->(y g).1=⟨(bk g).1,(bk g).2,none⟩/\∃ c t v,W.heap[(bk g).1]? =some (.cells c t (0,0))/\c[0]? =some v:=by
  intro g hg
  obtain ⟨_,h2,_,c,t,h4⟩:=hy g hg
  simp only [World.cell?,h4] at h2
  split at h2
  ·cases h2
  ·rename_i hs
   refine ⟨?_,c,t,?_⟩
   ·have:(y g).1.spot=none:=by simpa using hs
    simp only [bk]
    cases hyg:(y g).1
    rw [hyg] at this
    simp only at this
    rw [this]
   ·have hlt:(y g).1.off < c.size:=(Array.getElem?_eq_some_iff.1 h2).1
    exact ⟨c[0]'(by omega),h4,by simp⟩
 have strict:∀ b v,Gf b=some v->∃ c t,W.heap[b]? =some (.cells c t (0,0))/\c[0]? =some v:=fun b v hb=>by
  simp only [Gf] at hb
  split at hb
  ·rename_i hor
   have:∃ c t,W.heap[b]? =some (.cells c t (0,0)):=by
    rcases hor with h1 | ⟨g,hg,rfl⟩
    ·obtain ⟨⟨c,t,h1,_⟩,_⟩:=hy b h1
     exact ⟨c,t,h1⟩
    ·obtain ⟨_,c,t,v,h1,_⟩:=hspot g hg
     exact ⟨c,t,h1⟩
   obtain ⟨c,t,h1⟩:=this
   rw [h1] at hb
   simp only at hb
   exact ⟨c,t,h1,hb⟩
  ·cases hb
 refine ⟨⟨Gf,hs⟩,bk,rfl,⟨fun g hg=> ?_,fun g hg=> ?_,fun g h hg hh he=> ?_⟩,fun b v hb=> ?_⟩
 ·obtain ⟨⟨c,t,h1,h2⟩,_⟩:=hy g hg
  simp only [Gf]
  rw [if_pos (.inl hg),h1]
  simp only
  rw [h2,(hspot g hg).1]
 ·obtain ⟨_,c,t,v,h1,h2⟩:=hspot g hg
  simp only [Gf]
  rw [if_pos (.inr ⟨g,hg,rfl⟩),h1]
  simp only
  rw [h2]; rfl
 ·have e1:(y g).1=(y h).1:=by
   rw [(hspot g hg).1,(hspot h hh).1,he]
  obtain ⟨_,k1,k2,_⟩:=hy g hg
  obtain ⟨_,k3,k4,_⟩:=hy h hh
  rw [e1,k3] at k1
  simp only [Option.some.injEq,Value.string.injEq] at k1
  rcases (hc g hg).2 h hh with h5 | h5
  ·exact h5
  ·exact absurd (by rw [k2,k4,k1]) h5
 ·rcases hb with hb | hb
  ·obtain ⟨c,t,h1,h2⟩:=strict b v hb
   exact ⟨⟨c,t,(0,0),h1,h2,fun _=>rfl⟩,(Array.getElem?_eq_some_iff.1 h1).1⟩
  ·obtain ⟨h1,c,t,fz,h2,h3⟩:=hhs _ hb
   refine ⟨⟨c,t,fz,h2,h3,fun hg=> ?_⟩,h1⟩
   obtain ⟨c',t',h4,_⟩:=strict b v hg
   rw [h4] at h2
   simp only [Option.some.injEq,Obj.cells.injEq] at h2
   exact h2.2.2.symm
theorem f0j:∀ g,g∈c5j->gn (cn g)=g:=by decide
theorem c9j:∀ g,g < 21->gn g∈c5j:=by decide
theorem e20:∀ g,g < 21->∀ h,h < 21->gn g=gn h->g=h:=by decide
theorem b5y {laid:List (String×DataW Unit)} {hs:List (Nat×Value)} {W:World} (h:laidMet pg laid W) (hc:d7m laid=true) (hhs:∀ p∈hs,p.1 < W.heap.size/\∃ cur T fz,W.heap[p.1]? =some (.cells cur T fz)/\cur[0]? =some p.2):∃ (G:GG) (bk:Nat->Nat×Nat),G.hs=hs/\Sent G bk/\∀ g v,G.at g v->GC G W g v/\g < W.heap.size:=by
 have key:∀ g,g < 22/\g≠9->g∈c5j:=fun g hg=>by simp; omega
 obtain ⟨G,bk,h0,⟨h1,h2,h3⟩,h4⟩:=c00 (L:=c5j) (hs:=hs) (fun g hg=>hg) h hc hhs
 refine ⟨G,fun c=>bk (gn c),h0,⟨fun g hg=> ?_,fun g hg=>h2 _ (c9j g hg),fun g k hg hk he=>e20 g hg k hk (h3 _ _ (c9j g hg) (c9j k hk) he)⟩,h4⟩
 simp only [f0j g (key g hg)]
 exact h1 g (key g hg)
end Go.Ideal.Tryz
end
section
namespace Go.Proofs.YtfncabcldhemkaaGreatDoor
open Go Go.ChangeShapes Go.WideShapes Go.RowKit Go.Ideal Go.Ideal.Tryz
theorem own:ownKnob Tryz.prog.godebug=none:=by kernel_rfl
theorem c9p:laidOutB Tryz.prog=true:=by kernel_rfl
noncomputable def low:Nat:=(World.holding Tryz.prog default ⟨#[],#[],[]⟩).heap.size
noncomputable def d25:List Obj:=(List.range 22).map fun g=> .cells #[.string ⟨((b9r Rows.checkInstrsRow.laid g).getD []).toArray⟩] 252 (0,0)
noncomputable def b0r (os:Os):World:=
 let w0:=World.holding Tryz.prog os ⟨d25.toArray,#[],[]⟩
 { w0 with heap:=((w0.heap.toList.zipIdx).map fun
   | (.cells c t fz,9)=> .cells #[.iface 212 (.agg #[.pointer (some ⟨22,35,none⟩)])] t fz
   | (.cells c t fz,i)=>if i∈([0,1,2,3,4,5,6,7,8,10,11,12,13,14,15,16,17,18,19,20,21]:List Nat) then .cells #[.iface 230 (.pointer (some ⟨low+i,0,none⟩))] t fz else .cells c t fz
   | (o,_)=>o).toArray }
theorem b7a (os:Os) (args:Array Value):((b0r os).forCall (fun _ _=>0) ⟨#[],args,[]⟩).Shaped Tryz.prog:=
 World.shaped_of_RefB (by kernel_rfl) (by kernel_rfl)
theorem hEt : Tryz.prog.globalNamed "errors.errorType" = some 9 := by kernel_rfl
theorem hRt : (Tryz.prog.cutTypes.find? (·.1 == "internal/reflectlite.rtype")).map (·.2) = some 212 := by kernel_rfl
theorem d6g:((List.range 264).filter fun t=>Tryz.prog.rowNamed t [101,114,114,111,114])=[35]:=by kernel_rfl
theorem f0l:Tryz.prog.types.size=264:=by kernel_rfl
abbrev hX : String × DataW Unit := ("errors.errorType", .iface "internal/reflectlite.rtype" (.agg [.ptr (.lit (.string [101, 114, 114, 111, 114]))]))
abbrev hV:Value:= .iface 212 (.agg #[.pointer (some ⟨22,35,none⟩)])
theorem b19 {W:World} (h':handlesMet Tryz.prog [hX] W):9 < W.heap.size/\∃ cur T fz,W.heap[9]? =some (.cells cur T fz)/\cur[0]? =some hV:=by
 obtain ⟨name,u,ty,e1,e2,e3,e4,e5⟩:=h' _ (List.mem_singleton.2 rfl)
 have en:name=[101,114,114,111,114]:=(Option.some.inj e1).symm
 subst en
 obtain rfl:=Option.some.inj (hRt.symm.trans e2)
 have hm:ty∈(List.range 264).filter fun t=>Tryz.prog.rowNamed t [101,114,114,111,114]:=List.mem_filter.2 ⟨List.mem_range.2 (by rw [<-f0l]; exact e3),e4⟩
 rw [d6g] at hm
 obtain rfl:=List.mem_singleton.1 hm
 have hh:typeHandle Tryz.prog 35= .pointer (some ⟨22,35,none⟩):=by kernel_rfl
 rw [hh] at e5
 unfold World.var? at e5
 rw [hEt] at e5
 simp only [Option.bind_some] at e5
 split at e5
 ·rename_i c t0 fz hc
  injection e5 with e5
  subst e5
  exact ⟨(Array.getElem?_eq_some_iff.1 hc).1,_,_,_,hc,rfl⟩
 ·cases e5
end Go.Proofs.YtfncabcldhemkaaGreatDoor
end
section
namespace Go.Ideal
open Go.ChangeShapes Go.RowKit Classical
section
variable {H:Type} {e:TypeId×Value->H} {P:Program} {w:World}
def RdF (e:TypeId×Value->H) (P:Program) (w:World) (T:Type) (ts:List (TypeId×Nat)) (o total:Nat) (enc:T->List AV) (ok:T->Prop):Prop:=
 ∀ (n:Nat) (cs:List Value) (xs:List (DataW H×List MemPlace)),cs.length=total->xs.length=ts.length->
  (∀ (i:Nat) (p:TypeId×Nat),ts[i]? =some p->DataW.trod e P w 0 (fun _=>true) true n p.1 ((cs.drop p.2).take (P.cellsOf p.1))=xs[i]?)->
  (DataW.weightsEach P (ts.map (·.1)) (xs.map (·.1))).all (· <=reachBytes)=true->∃ x,ok x/\RL w (fun b=>b < w.heap.size) (enc x) noQ noB (cs.drop o)/\C1 (cs.drop o)
theorem RdF.nil {o:Nat}:RdF e P w Unit [] o o (fun _=>[]) (fun _=>True):=by
 intro n cs xs hl _ _ _
 refine ⟨(),trivial,?_,fun u hu=> ?_⟩
 ·rw [List.drop_of_length_le (by omega)]; simp [RL]
 ·rw [List.drop_of_length_le (by omega)] at hu; simp at hu
theorem RdF.cons {T U:Type} {t:TypeId} {k:Nat} {ts:List (TypeId×Nat)} {o total:Nat} {enc:T->List AV} {ok:T->Prop} {enc':U->List AV} {ok':U->Prop} (hk:P.cellsOf t=k) (h:Rd e P w T t enc ok) (hr:RdF e P w U ts (o+k) total enc' ok') :
  RdF e P w (T×U) ((t,o)::ts) o total (fun p=>enc p.1++enc' p.2) (fun p=>ok p.1/\ok' p.2):=by
 intro n cs xs hl hx ht hw
 cases xs with
 | nil=>simp at hx
 | cons y ys=>
  simp only [List.map_cons,DataW.weightsEach,List.all_append,Bool.and_eq_true] at hw
  have h0:=ht 0 (t,o) rfl
  simp only [List.getElem?_cons_zero,hk] at h0
  obtain ⟨x,ox,rx,cx⟩:=h n _ y.1 y.2 h0 hw.1
  obtain ⟨z,oz,rz,cz⟩:=hr n cs ys hl (by simpa using hx) (fun i p hp=>by simpa using ht (i+1) p (by simpa using hp)) hw.2
  have e1:cs.drop o=(cs.drop o).take k++cs.drop (o+k):=by rw [<-List.drop_drop]; exact (List.take_append_drop _ _).symm
  refine ⟨(x,z),⟨ox,oz⟩,?_,fun u hu=> ?_⟩
  ·rw [e1]
   exact a24 (fun b hb=>hb.elim (fun h=>h) fun h=>h) (a2k rx rz fun b hb=>hb.elim)
  ·rw [e1] at hu
   rcases List.mem_append.1 hu with hu | hu
   ·exact cx u hu
   ·exact cz u hu
def b8a (P:Program) (t:TypeId) (l:List (TypeId×Nat)):Bool:=match P.underlying t with
 | some (.struct fs)=>fs.toList.map (fun f=>(f.type,f.offset))==l
 | _=>false
theorem Rd.struct {T:Type} {t:TypeId} {l:List (TypeId×Nat)} {total:Nat} {enc:T->List AV} {ok:T->Prop} (hs:b8a P t l=true) (hc:P.cellsOf t=total) (hF:RdF e P w T l 0 total enc ok):Rd e P w T t enc ok:=by
 intro fuel cs d ps h hw
 unfold b8a at hs
 split at hs
 ·rename_i fs ht
  simp only [beq_iff_eq] at hs
  obtain ⟨xs,n,_,hx,hl,hxl,hf⟩:=DataW.trod_struct ht h
  simp only [Prod.mk.injEq] at hx
  obtain ⟨rfl,_⟩:=hx
  simp only [DataW.weights,ht] at hw
  have:=hF n cs xs (by rw [hl,hc]) (by rw [hxl,<-hs]; simp) (fun i p hp=>by
   rw [<-hs] at hp
   simp only [List.getElem?_map,Option.map_eq_some_iff] at hp
   obtain ⟨f,hfi,rfl⟩:=hp
   exact hf i f (by simpa using hfi)) (by
   rw [<-hs,List.map_map]
   exact hw)
  simpa using this
 ·cases hs
theorem Rd.map {T U:Type} {t:TypeId} {enc:T->List AV} {ok:T->Prop} {enc':U->List AV} {ok':U->Prop} (h:Rd e P w T t enc ok) (f:T->U) (henc:∀ x,enc' (f x)=enc x) (hok:∀ x,ok x->ok' (f x)):Rd e P w U t enc' ok':=by
 intro fuel cs d ps h1 h2
 obtain ⟨x,a,b,c⟩:=h fuel cs d ps h1 h2
 exact ⟨f x,hok x a,by rw [henc]; exact b,c⟩
theorem c5s {t:TypeId} {v:Value} {l:List (TypeId×Nat)} {r:Reach} {base:Nat} {ks:List AV} (hs:b8a P t l=true) (hv:Value.okWide P w r base t v) (hr:RL w (fun b=>b < w.heap.size) ks noQ noB v.cells.toList) (hc:C1 v.cells.toList):R w (fun b=>b < w.heap.size) (.agg ks) noQ noB v:=by
 unfold b8a at hs
 split at hs
 ·rename_i fs ht
  unfold Value.okWide at hv
  rw [ht] at hv
  obtain ⟨cs,rfl,_⟩:=hv
  simp only [R]
  exact ⟨cs,rfl,hc,hr⟩
 ·cases hs
end
end Go.Ideal
end
section
namespace Go.Ideal.Tryz
def a37:IC:=(.seq (.reg [oo 24 (.bin .lss 3 0 (.t 23) (.t 22) 3)]) (.seq (.cond (.t 24) .skip (.exit 2)) (.seq (.block 3 (.seq (.reg [oo 25 (.iaddr 74 1 (.t 21) (.t 23)),
 oo 26 (.load 3 none (.t 25)),
 oo 7 (.asg (.t 26))]) (.seq (.reg [om 27 7,
 oo 28 (.bin .geq 3 0 (.t 27) (.n 0) 3),
 om 29 28,
 og 30 (.mv (.t 7)) 2 29 true,
 og 31 (.mv (.t 3)) 2 29 true,
 og 32 (.len 164 false (.t 31)) 2 29 true,
 og 33 (.bin .lss 3 0 (.t 30) (.t 32) 3) 2 29 true,
 oo 34 (.pick (.t 29) (.t 33) (.c (.bool false))),
 om 35 34,
 og 36 (.mv (.t 3)) 8 35 true,
 og 37 (.mv (.t 7)) 8 35 true,
 og 38 (.iaddr 164 1 (.t 36) (.t 37)) 8 35 true,
 og 39 (.load 74 none (.t 38)) 8 35 true,
 og 40 (.mv (.t 4)) 8 35 true,
 ⟨(some 41),.call 155 [(false,(.t 39)),(false,(.t 40))] [74,3],(some (8,35,true))⟩,
 og 42 (.un .not 4 (.t 41)) 8 35 true,
 oo 43 (.pick (.t 35) (.t 42) (.c (.bool false)))]) (.cond (.t 43) (.reg [om 44 3,
 om 45 7,
 om 46 3,
 om 47 7,
 oo 48 (.iaddr 164 1 (.t 46) (.t 47)),
 oo 49 (.load 74 none (.t 48)),
 om 50 4,
 oo 51 (.bslice 74 3 1 1 [.lit (.int .i64 0)] [(0,(.t 50))]),
 oo 52 (.app 74 3 1 8 (.t 49) (.t 51)),
 oo 53 (.iaddr 164 1 (.t 44) (.t 45)),
 ov (.store 74 1 (.t 53) (.t 52))]) .skip)))) (.reg [oo 54 (.bin .add 3 0 (.t 23) (.n 1) 3),
 om 23 54]))))
def a9c:IC:=(.seq (.reg [oo 16 (.bin .lss 3 0 (.t 15) (.t 14) 3)]) (.seq (.cond (.t 16) .skip (.exit 0)) (.seq (.block 1 (.seq (.reg [om 17 15,
 oo 18 (.iaddr 47 6 (.t 13) (.t 15)),
 oo 19 (.load 108 (some 6) (.t 18)),
 oo 5 (.alloc 108 [.lit (.int .i64 0),.own 1 0 [],.own 1 0 [],.own 1 0 [],.lit (.bool false),.own 1 0 []]),
 oo 4 (.asg (.t 17)),
 ov (.store 108 6 (.t 5) (.t 19))]) (.seq (.reg [oo 20 (.faddr 108 1 (.t 5) 1),
 oo 21 (.load 74 none (.t 20)),
 oo 22 (.len 74 false (.t 21)),
 oo 23 (.mv (.n 0))]) (.block 2 (.loop a37))))) (.reg [oo 55 (.bin .add 3 0 (.t 15) (.n 1) 3),
 om 15 55]))))
def b5f:IC:=(.seq (.reg [oo 1 (.box 49 2 (.t 0)),
 oo 2 (.asg (.nl 1))]) (.seq (.reg [oo 8 (.faddr 49 0 (.t 1) 0),
 oo 9 (.load 47 none (.t 8)),
 oo 10 (.len 47 false (.t 9)),
 oo 11 (.mks 164 74 1 24 [.own 1 0 []] (.t 10) (.t 10)),
 oo 3 (.asg (.t 11))]) (.seq (.seq (.reg [oo 12 (.faddr 49 0 (.t 1) 0),
 oo 13 (.load 47 none (.t 12)),
 oo 14 (.len 47 false (.t 13)),
 oo 15 (.mv (.n 0))]) (.block 0 (.loop a9c))) (.seq (.reg [om 56 3,
 oo 2 (.asg (.t 56))]) .ret))))
abbrev c1d:Nat:=115
theorem b69:fnC pg 115 57 [(.tmp 2)] b5f:=a0s Go.Proofs.Tryz.f115 [(.tmp 2)] (by kernel_rfl)
def a6m:IC:=(.seq (.seq (.reg [om 8 4,
 om 9 0,
 oo 10 (.len 74 false (.t 9)),
 oo 11 (.bin .lss 3 0 (.t 8) (.t 10) 3)]) (.cond (.t 11) .skip (.exit 0))) (.seq (.block 1 (.reg [om 14 3,
 om 15 0,
 om 16 4,
 oo 17 (.iaddr 74 1 (.t 15) (.t 16)),
 oo 18 (.load 3 none (.t 17)),
 oo 19 (.bslice 74 3 1 1 [.lit (.int .i64 0)] [(0,(.t 18))]),
 oo 20 (.app 74 3 1 8 (.t 14) (.t 19)),
 oo 3 (.asg (.t 20))])) (.reg [om 12 4,
 oo 13 (.bin .add 3 0 (.t 12) (.n 1) 3),
 oo 4 (.asg (.t 13))])))
def b0z:IC:=(.seq (.reg [oo 2 (.asg (.nl 1))]) (.seq (.reg [om 5 0,
 oo 6 (.len 74 false (.t 5)),
 oo 7 (.mks 74 3 1 8 [.lit (.int .i64 0)] (.n 0) (.t 6)),
 oo 3 (.asg (.t 7))]) (.seq (.seq (.reg [oo 4 (.asg (.n 0))]) (.block 0 (.loop a6m))) (.seq (.reg [om 21 3,
 oo 2 (.asg (.t 21))]) .ret))))
abbrev b0f:Nat:=93
theorem b3r:fnC pg 93 22 [(.tmp 2)] b0z:=a0s Go.Proofs.Tryz.f93 [(.tmp 2)] (by kernel_rfl)
def a4a:IC:=(.seq (.seq (.reg [om 6 5,
 om 7 0,
 oo 8 (.len 74 false (.t 7)),
 oo 9 (.bin .lss 3 0 (.t 6) (.t 8) 3)]) (.cond (.t 9) .skip (.exit 0))) (.seq (.block 1 (.seq (.reg [om 12 0,
 om 13 5,
 oo 14 (.iaddr 74 1 (.t 12) (.t 13)),
 oo 15 (.load 3 none (.t 14)),
 om 16 1,
 oo 17 (.bin .eql 3 0 (.t 15) (.t 16) 3)]) (.cond (.t 17) (.seq (.reg [oo 4 (.asg (.c (.bool true)))]) .ret) .skip))) (.reg [om 10 5,
 oo 11 (.bin .add 3 0 (.t 10) (.n 1) 3),
 oo 5 (.asg (.t 11))])))
def a9y:IC:=(.seq (.reg [oo 4 (.asg (.c (.bool false)))]) (.seq (.seq (.reg [oo 5 (.asg (.n 0))]) (.block 0 (.loop a4a))) (.seq (.reg [oo 4 (.asg (.c (.bool false)))]) .ret)))
abbrev b55:Nat:=69
theorem b2w:fnC pg 69 18 [(.tmp 4)] a9y:=a0s Go.Proofs.Tryz.f69 [(.tmp 4)] (by kernel_rfl)
def a6g:IC:=(.seq (.reg [oo 4 (.asg (.c (.bool false)))]) (.seq (.reg [om 5 0,
 om 6 1,
 oc 7 172 [(false,(.t 5)),(false,(.t 6))] [74,3],
 oo 8 (.bin .geq 3 0 (.t 7) (.n 0) 3),
 oo 4 (.asg (.t 8))]) .ret))
abbrev b0i:Nat:=155
theorem a88:fnC pg 155 9 [(.tmp 4)] a6g:=a0s Go.Proofs.Tryz.f155 [(.tmp 4)] (by kernel_rfl)
def a63:IC:=(.seq (.reg [oo 25 (.bin .lss 3 0 (.t 24) (.t 23) 3)]) (.seq (.cond (.t 25) .skip (.exit 0)) (.seq (.block 1 (.seq (.reg [om 26 24,
 oo 27 (.iaddr 74 1 (.t 22) (.t 24)),
 oo 28 (.load 3 none (.t 27)),
 oo 4 (.asg (.t 26)),
 oo 5 (.asg (.t 28))]) (.seq (.reg [om 29 5,
 oo 30 (.faddr 85 0 (.t 1) 0),
 oo 31 (.faddr 76 1 (.t 30) 1),
 oo 32 (.load 4 none (.t 31)),
 oc 33 146 [(false,(.t 29)),(false,(.t 32))] [3,4],
 oo 34 (.un .not 4 (.t 33))]) (.cond (.t 34) (.seq (.reg [om 35 4,
 oo 36 (.load 35 none (.g 3)),
 oo 37 (.build 157 [.lit (.int .i64 0),.lit .nilIface] [(0,0,1,(.t 35)),(1,1,1,(.t 36))]),
 oo 38 (.box 157 2 (.t 37)),
 oo 39 (.mki 153 (.t 38)),
 oo 2 (.asg (.t 39))]) .ret) .skip)))) (.reg [oo 40 (.bin .add 3 0 (.t 24) (.n 1) 3),
 om 24 40]))))
def b50:IC:=(.seq (.reg [oo 1 (.box 85 3 (.t 0)),
 oo 2 (.asg (.c .nilIface))]) (.seq (.seq (.reg [oo 6 (.faddr 85 0 (.t 1) 0),
 oo 7 (.load 76 (some 2) (.t 6)),
 oc 8 105 [(false,(.t 7))] [76],
 oo 3 (.asg (.t 8))]) (.seq (.reg [om 9 3,
 oo 10 (.bin .neq 35 2 (.t 9) (.c .nilIface) 35)]) (.cond (.t 10) (.seq (.reg [om 11 3,
 oo 2 (.asg (.t 11))]) .ret) .skip))) (.seq (.seq (.draw [oo 12 (.faddr 85 2 (.t 1) 1),
 oo 13 (.load 74 none (.t 12)),
 oo 14 (.len 74 false (.t 13)),
 oo 15 (.faddr 85 0 (.t 1) 0),
 oo 16 (.faddr 76 0 (.t 15) 0),
 oo 17 (.load 74 none (.t 16)),
 oc 18 99 [(false,(.t 17))] [74],
 oo 19 (.bin .neq 3 0 (.t 14) (.t 18) 3)] [[],[0],[1],[],[3],[4],[5],[2,6]]) (.cond (.t 19) (.seq (.reg [oo 20 (.load 35 none (.g 6)),
 oo 2 (.asg (.t 20))]) .ret) .skip)) (.seq (.seq (.reg [oo 21 (.faddr 85 2 (.t 1) 1),
 oo 22 (.load 74 none (.t 21)),
 oo 23 (.len 74 false (.t 22)),
 oo 24 (.mv (.n 0))]) (.block 0 (.loop a63))) (.seq (.reg [oo 2 (.asg (.c .nilIface))]) .ret)))))
abbrev c1p:Nat:=107
theorem b8c:fnC pg 107 41 [(.tmp 2)] b50:=a0s Go.Proofs.Tryz.f107 [(.tmp 2)] (by kernel_rfl)
def a3j:IC:=(.seq (.reg [oo 9 (.bin .lss 3 0 (.t 8) (.t 7) 3)]) (.seq (.cond (.t 9) .skip (.exit 0)) (.seq (.block 1 (.seq (.reg [om 10 8,
 oo 5 (.asg (.t 10))]) (.seq (.reg [om 11 1,
 om 12 0,
 om 13 5,
 oo 14 (.iaddr 74 1 (.t 12) (.t 13)),
 oo 15 (.load 3 none (.t 14)),
 oo 16 (.bin .eql 3 0 (.t 11) (.t 15) 3)]) (.cond (.t 16) (.seq (.reg [om 17 5,
 oo 4 (.asg (.t 17))]) .ret) .skip)))) (.reg [oo 18 (.bin .add 3 0 (.t 8) (.n 1) 3),
 om 8 18]))))
def a70:IC:=(.seq (.reg [oo 4 (.asg (.n 0))]) (.seq (.seq (.reg [om 6 0,
 oo 7 (.len 74 false (.t 6)),
 oo 8 (.mv (.n 0))]) (.block 0 (.loop a3j))) (.seq (.reg [oo 4 (.asg (.n (-1)))]) .ret)))
abbrev b3a:Nat:=172
theorem b1d:fnC pg 172 19 [(.tmp 4)] a70:=a0s Go.Proofs.Tryz.f172 [(.tmp 4)] (by kernel_rfl)
def a3p:IC:=(.seq (.reg [oo 17 (.bin .lss 3 0 (.t 16) (.t 15) 3)]) (.seq (.cond (.t 17) .skip (.exit 0)) (.seq (.block 1 (.seq (.reg [oo 18 (.iaddr 74 1 (.t 14) (.t 16)),
 oo 19 (.load 3 none (.t 18)),
 oo 5 (.asg (.t 19))]) (.seq (.reg [om 20 5,
 oo 21 (.bin .lss 3 0 (.t 20) (.n 1) 3),
 om 22 21,
 og 23 (.mv (.t 5)) 2 22 false,
 og 24 (.bin .gtr 3 0 (.t 23) (.n 256) 3) 2 22 false,
 oo 25 (.pick (.t 22) (.c (.bool true)) (.t 24))]) (.cond (.t 25) (.seq (.reg [oo 26 (.load 35 none (.g 3)),
 oo 2 (.asg (.t 26))]) .ret) .skip)))) (.reg [oo 27 (.bin .add 3 0 (.t 16) (.n 1) 3),
 om 16 27]))))
def a4o:IC:=(.seq (.reg [oo 32 (.bin .lss 3 0 (.t 31) (.t 30) 3)]) (.seq (.cond (.t 32) .skip (.exit 2)) (.seq (.block 3 (.seq (.reg [oo 33 (.iaddr 74 1 (.t 29) (.t 31)),
 oo 34 (.load 3 none (.t 33)),
 oo 7 (.asg (.t 34))]) (.seq (.reg [om 35 3,
 om 36 7,
 oo 37 (.bin .mul 3 0 (.t 35) (.t 36) 3),
 oo 3 (.asg (.t 37))]) (.seq (.reg [om 38 3,
 oo 39 (.bin .gtr 3 0 (.t 38) (.n 16384) 3)]) (.cond (.t 39) (.seq (.reg [oo 40 (.load 35 none (.g 5)),
 oo 2 (.asg (.t 40))]) .ret) .skip))))) (.reg [oo 41 (.bin .add 3 0 (.t 31) (.n 1) 3),
 om 31 41]))))
def a9p:IC:=(.seq (.reg [oo 1 (.box 76 2 (.t 0)),
 oo 2 (.asg (.c .nilIface))]) (.seq (.seq (.reg [oo 8 (.faddr 76 0 (.t 1) 0),
 oo 9 (.load 74 none (.t 8)),
 oo 10 (.len 74 false (.t 9)),
 oo 11 (.bin .gtr 3 0 (.t 10) (.n 4) 3)]) (.cond (.t 11) (.seq (.reg [oo 12 (.load 35 none (.g 5)),
 oo 2 (.asg (.t 12))]) .ret) .skip)) (.seq (.reg [oo 3 (.asg (.n 1))]) (.seq (.seq (.reg [oo 13 (.faddr 76 0 (.t 1) 0),
 oo 14 (.load 74 none (.t 13)),
 oo 15 (.len 74 false (.t 14)),
 oo 16 (.mv (.n 0))]) (.block 0 (.loop a3p))) (.seq (.seq (.reg [oo 28 (.faddr 76 0 (.t 1) 0),
 oo 29 (.load 74 none (.t 28)),
 oo 30 (.len 74 false (.t 29)),
 oo 31 (.mv (.n 0))]) (.block 2 (.loop a4o))) (.seq (.reg [oo 2 (.asg (.c .nilIface))]) .ret))))))
abbrev b91:Nat:=105
theorem b6d:fnC pg 105 42 [(.tmp 2)] a9p:=a0s Go.Proofs.Tryz.f105 [(.tmp 2)] (by kernel_rfl)
def a8c:IC:=(.seq (.reg [oo 12 (.bin .lss 3 0 (.t 11) (.t 10) 3)]) (.seq (.cond (.t 12) .skip (.exit 0)) (.seq (.block 1 (.seq (.reg [oo 13 (.iaddr 74 1 (.t 9) (.t 11)),
 oo 14 (.load 3 none (.t 13)),
 oo 5 (.asg (.t 14))]) (.reg [om 15 3,
 om 16 5,
 oo 17 (.bin .mul 3 0 (.t 15) (.t 16) 3),
 oo 3 (.asg (.t 17))]))) (.reg [oo 18 (.bin .add 3 0 (.t 11) (.n 1) 3),
 om 11 18]))))
def b4f:IC:=(.seq (.reg [oo 2 (.asg (.n 0))]) (.seq (.seq (.reg [om 6 0,
 oc 7 143 [(false,(.t 6))] [74],
 oo 8 (.un .not 4 (.t 7))]) (.cond (.t 8) (.seq (.reg [oo 2 (.asg (.n 0))]) .ret) .skip)) (.seq (.reg [oo 3 (.asg (.n 1))]) (.seq (.seq (.reg [om 9 0,
 oo 10 (.len 74 false (.t 9)),
 oo 11 (.mv (.n 0))]) (.block 0 (.loop a8c))) (.seq (.reg [om 19 3,
 oo 2 (.asg (.t 19))]) .ret)))))
abbrev b90:Nat:=99
theorem b6c:fnC pg 99 20 [(.tmp 2)] b4f:=a0s Go.Proofs.Tryz.f99 [(.tmp 2)] (by kernel_rfl)
def b23:IC:=(.seq (.reg [oo 4 (.asg (.c (.bool false)))]) (.seq (.seq (.reg [om 5 1]) (.cond (.t 5) (.seq (.reg [om 6 0,
 oo 7 (.bin .geq 3 0 (.t 6) (.n (-2147483648)) 3),
 om 8 7,
 og 9 (.mv (.t 0)) 2 8 true,
 og 10 (.bin .leq 3 0 (.t 9) (.n 2147483647) 3) 2 8 true,
 oo 11 (.pick (.t 8) (.t 10) (.c (.bool false))),
 oo 4 (.asg (.t 11))]) .ret) .skip)) (.seq (.reg [om 12 0,
 oo 13 (.bin .geq 3 0 (.t 12) (.n (-128)) 3),
 om 14 13,
 og 15 (.mv (.t 0)) 2 14 true,
 og 16 (.bin .leq 3 0 (.t 15) (.n 127) 3) 2 14 true,
 oo 17 (.pick (.t 14) (.t 16) (.c (.bool false))),
 oo 4 (.asg (.t 17))]) .ret)))
abbrev c3x:Nat:=146
theorem b8w:fnC pg 146 18 [(.tmp 4)] b23:=a0s Go.Proofs.Tryz.f146 [(.tmp 4)] (by kernel_rfl)
def b4d:IC:=(.seq (.reg [oo 1 (.box 76 2 (.t 0)),
 oo 2 (.asg (.n 0))]) (.seq (.seq (.reg [oo 3 (.faddr 76 1 (.t 1) 1),
 oo 4 (.load 4 none (.t 3))]) (.cond (.t 4) (.seq (.reg [oo 5 (.faddr 76 0 (.t 1) 0),
 oo 6 (.load 74 none (.t 5)),
 oc 7 99 [(false,(.t 6))] [74],
 oo 8 (.bin .mul 3 0 (.n 4) (.t 7) 3),
 oo 2 (.asg (.t 8))]) .ret) .skip)) (.seq (.reg [oo 9 (.faddr 76 0 (.t 1) 0),
 oo 10 (.load 74 none (.t 9)),
 oc 11 99 [(false,(.t 10))] [74],
 oo 2 (.asg (.t 11))]) .ret)))
abbrev b9y:Nat:=106
theorem b6a:fnC pg 106 12 [(.tmp 2)] b4d:=a0s Go.Proofs.Tryz.f106 [(.tmp 2)] (by kernel_rfl)
def b5z:IC:=(.seq (.reg [oo 2 (.asg (.c (.bool false)))]) (.seq (.reg [om 3 0,
 oo 4 (.build 76 [.own 1 0 [],.lit (.bool false)] [(0,0,1,(.t 3))]),
 oc 5 105 [(false,(.t 4))] [76],
 oo 6 (.bin .eql 35 2 (.t 5) (.c .nilIface) 35),
 oo 2 (.asg (.t 6))]) .ret))
abbrev c1o:Nat:=143
theorem b77:fnC pg 143 7 [(.tmp 2)] b5z:=a0s Go.Proofs.Tryz.f143 [(.tmp 2)] (by kernel_rfl)
section
variable {G:GG} {Q:Exit->St->Prop} {st:St}
abbrev u8 (n:Int):Int:=IntKind.u8.wrap n
end
end Go.Ideal.Tryz
end
