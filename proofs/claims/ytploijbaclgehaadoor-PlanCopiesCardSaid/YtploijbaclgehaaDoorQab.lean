/- Part Qab of the proof: walks on a machine that is proved sound. -/
import Derived.Test.YtploijbaclgehaaDoorQaa
import Derived.Laws.MakeOwn
import Derived.Laws.Tables
import Derived.Laws.BytesString
set_option linter.unusedVariables false
set_option linter.unusedSimpArgs false
section
namespace Go.Ideal
def opX (x:Option X):Option Operand:=x.map X.op
def erase:IOp->Op
 | .mv x=> .move x.op
 | .asg x=> .assign x.op
 | .mva x=> .move x.op
 | .mvf x=> .move x.op
 | .pick c x y=> .pick c.op x.op y.op
 | .alloc T _=> .alloc T
 | .box T _ x=> .box T x.op
 | .build T _ parts=> .build T (parts.map fun p=>(p.1,p.2.2.2.op)).toArray
 | .bslice T _ _ len _ parts=> .buildSlice T len (parts.map fun p=>(p.1,p.2.op)).toArray
 | .load T _ x=> .load T x.op
 | .lmv T _ x=> .load T x.op
 | .store T _ x y=> .store T x.op y.op
 | .stf T _ x y=> .store T x.op y.op
 | .nilck x=> .nilCheck x.op
 | .bin b T _ x y yT=> .binOp b T x.op y.op yT
 | .un u T x=> .unOp u T x.op
 | .eqs b T _ _ x y yT=> .binOp b T x.op y.op yT
 | .conv s d _ x=> .convert s d x.op
 | .mki T x=> .makeInterface T x.op
 | .mkf f fs cs=> .makeFunc (.func f) (fs.map X.op).toArray (cs.map X.op).toArray
 | .mkz f fs cs=> .makeFunc (.func f) (fs.map X.op).toArray (cs.map X.op).toArray
 | .mks T _ _ _ _ l c=> .makeSlice T l.op c.op
 | .slice T _ x lo hi mx=> .slice T x.op (opX lo) (opX hi) (opX mx)
 | .faddr T _ x f=> .fieldAddr T x.op f
 | .aaddr T _ x k=> .indexAddr T x.op (.const (.int .i64 k))
 | .iaddr T _ x i=> .indexAddr T x.op i.op
 | .aaddrv T _ _ x i=> .indexAddr T x.op i.op
 | .ext x i=> .extract x.op i
 | .tas x xT T _=> .typeAssert x.op xT T true
 | .len T _ x=> .call { callee:= .builtin .len,args:=#[x.op],argTypes:=#[T] }
 | .app T _ _ _ x y=> .call { callee:= .builtin .append,args:=#[x.op,y.op],argTypes:=#[T,T] }
 | .mm mx ts xs=> .call { callee:= .builtin (if mx then .max else .min),args:=(xs.map X.op).toArray,argTypes:=ts.toArray }
 | .mkmap T=> .makeMap T none
 | .mget T _ _ x k=> .lookup T x.op k.op true
 | .mset T _ x k v=> .mapUpdate T x.op k.op v.op
 | .lend T _ x=> .load T x.op
 | .fld T _ x f=> .field T x.op f
def a71 (P:Program) (T sz:Nat):Bool:=match P.info? T with
 | some i=>i.size==sz
 | none=>false
def b36 (P:Program) (T:Nat) (zs:List AV):Bool:=match P.info? T with
 | some i=>match i.zero with
  | some z=>match a4b zs with
   | some vs=>c78 z.cells.toList vs
   | none=>false
  | none=>false
 | none=>false
def b5t (P:Program) (T e:Nat):Bool:=match P.underlying T with
 | some (.slice e')=>e'==e
 | _=>false
def b2g (P:Program) (T:Nat):Option Bool:=match P.underlying T with
 | some (.struct _)=>some true
 | some (.array _ _)=>some true
 | some _=>some false
 | none=>none
def b90 (P:Program) (T:Nat) (ps:List (Nat×Nat×Nat)):Bool:=match P.underlying T with
 | some (.struct fs)=>match fs.toList.mapM (fun f=>(P.info? f.type).map fun i=>(f.offset,i.size)) with
  | some places=>ps.all fun p=>match places.toArray[p.1]? with
   | some q=>q.1==p.2.1&&q.2==p.2.2
   | none=>false
  | none=>false
 | some (.array _ e)=>match P.info? e with
  | some i=>ps.all fun p=>p.2.1==p.1*i.size&&p.2.2==i.size
  | none=>false
 | _=>false
def isC:X->Bool
 | .c _=>true
 | _=>false
def b7z (P:Program) (e by_:Nat):Bool:=match P.info? e with
 | some i=>i.bytes==by_
 | none=>false
def b5y (P:Program) (e sz:Nat):Bool:=match P.info? e with
 | some i=>match i.zero with
  | some z=>z.cells.size==sz
  | none=>false
 | none=>false
def b8l (P:Program) (e:Nat):Bool:=match P.info? e with
 | some i=>match i.zero with
  | some (.agg _)=>true
  | _=>false
 | none=>false
def a3m (P:Program) (N:Nat):IOp->Bool
 | .mv x=>okX N x
 | .asg x=>okX N x
 | .mva x=>okX N x
 | .mvf x=>okX N x
 | .pick c x y=>okX N c&&okX N x&&okX N y
 | .alloc T zs=>b36 P T zs
 | .box _ _ x=>okX N x
 | .build T zs parts=>b36 P T zs&&(parts.all fun p=>okX N p.2.2.2)&&b90 P T (parts.map fun p=>(p.1,p.2.1,p.2.2.1))
 | .bslice T e sz len zs parts=>b5t P T e&&a71 P e sz&&b36 P e zs&&zs.length==sz&&decide (len*sz<=16777216)&&decide (len<=16777216)&&parts.all fun p=>okX N p.2
 | .load T s x=>okX N x&&(match s with
  | none=>b2g P T==some false
  | some s=>b2g P T==some true&&a71 P T s)
 | .lmv T s x=>okX N x&&b2g P T==some true&&a71 P T s
 | .store T s x y=>okX N x&&okX N y&&a71 P T s
 | .stf T s x y=>okX N x&&okX N y&&a71 P T s
 | .nilck x=>okX N x
 | .bin b T kd x y _=>okX N x&&okX N y&&(match kd with
  | 0=>true
  | 1=>match P.underlying T with | some .bool=>true | _=>false
  | 2=>(match P.underlying T with | some (.interface _)=>true | _=>false)&&(isC x||isC y)
  | 3=>match P.underlying T with | some (.pointer _)=>true | _=>false
  | _=>false)
 | .un _ _ x=>okX N x
 | .eqs _ T tp te x y _=>okX N x&&okX N y&&(match P.underlying T with | some (.interface _)=>true | _=>false)&&(match P.underlying tp with | some (.pointer e)=>e==te | _=>false)&&
   (match P.info? tp with | some i=>i.comparable | none=>false)&&(match P.info? te with | some i=>i.size != 0 | none=>false)
 | .conv s d k x=>okX N x&&(match k with
  | .int k=>(P.underlying s).isSome&&(match P.underlying d with | some (.int k')=>k'==k | _=>false)
  | .str=>(match P.underlying s,P.underlying d with | some (.slice e),some .string=>(match P.underlying e with | some (.int .u8)=>true | _=>false) | _,_=>false)
  | .keep=>s==d&&(match P.underlying s with | some (.slice e)=>(match P.underlying e with | some (.int .u8)=>true | _=>false) | _=>false))
 | .mki T x=>okX N x&&(match P.underlying T with | some (.interface _)=>false | some _=>true | none=>false)
 | .mkf _ fs cs=>fs.all (okX N)&&cs.all (okX N)
 | .mkz _ fs cs=>fs.all (okX N)&&cs.all (okX N)
 | .mks T e sz by_ zs l c=>okX N l&&okX N c&&b5t P T e&&a71 P e sz&&b7z P e by_&&b36 P e zs&&zs.length==sz
 | .slice T sz x lo hi mx=>okX N x&&(lo.all (okX N))&&(hi.all (okX N))&&(mx.all (okX N))&&(match P.underlying T with
  | some .string=>sz==0
  | some (.slice e)=>a71 P e sz&&decide (0 < sz)
  | _=>false)
 | .faddr T off x f=>okX N x&&(match P.underlying T with
  | some (.struct fs)=>match fs[f]? with
   | some fl=>fl.offset==off&&(match P.info? fl.type with | some i=>i.size != 0 | none=>false)
   | none=>false
  | _=>false)
 | .aaddr T off x k=>okX N x&&(match P.underlying T with
  | some (.array n e)=>decide (k < n)&&(match P.info? e with | some i=>off==k*i.size | none=>false)
  | _=>false)
 | .aaddrv T sz n x i=>okX N x&&okX N i&&(match P.underlying T with
  | some (.array m e)=>m==n&&(match P.info? e with | some inf=>sz==inf.size | none=>false)
  | _=>false)
 | .iaddr T sz x i=>okX N x&&okX N i&&(match P.underlying T with | some (.slice e)=>a71 P e sz | _=>false)
 | .ext x _=>okX N x
 | .tas x _ T zs=>okX N x&&b36 P T zs&&(match P.underlying T with | some (.interface _)=>false | some (.struct _)=>false | some (.array _ _)=>false | some _=>true | none=>false)&&
   (match P.info? T with | some i=>(match i.zero with | some z=>z.oneCell' | none=>false) | none=>false)
 | .len T str x=>okX N x&&(match str,P.underlying T with | true,some .string=>true | false,some (.slice _)=>true | _,_=>false)
 | .app T e sz by_ x y=>okX N x&&okX N y&&b5t P T e&&a71 P e sz&&b7z P e by_&&b5y P e sz&&decide (0 < sz)
 | .mm _ _ xs=>xs.all (okX N)
 | .mkmap T=>(match P.underlying T with | some (.map _ _)=>true | _=>false)
 | .mget T e zs x k=>okX N x&&okX N k&&b36 P e zs&&b8l P e&&(match P.underlying T with | some (.map kt e')=>e'==e&&(match P.underlying kt with | some (.int .i64)=>true | _=>false) | _=>false)
 | .mset T e x k v=>okX N x&&okX N k&&okX N v&&(match P.underlying T with | some (.map kt e')=>e'==e&&(match P.underlying kt with | some (.int .i64)=>true | _=>false) | _=>false)
 | .lend T s x=>okX N x&&b2g P T==some true&&a71 P T s
 | .fld T off x f=>okX N x&&(match P.underlying T with
  | some (.struct fs)=>match fs[f]? with
   | some fl=>fl.offset==off&&b2g P fl.type==some false
   | none=>false
  | _=>false)
theorem a2m {P:Program} {T sz:Nat} (h:a71 P T sz=true):∃ i,P.info? T=some i/\i.size=sz:=by
 unfold a71 at h
 split at h
 ·rename_i i hi; exact ⟨i,hi,by simpa using h⟩
 ·cases h
theorem a4u {P:Program} {T:Nat} {zs:List AV} (h:b36 P T zs=true):∃ i z,P.info? T=some i/\i.zero=some z/\a4b zs=some z.cells.toList:=by
 unfold b36 at h
 split at h
 ·rename_i i hi
  split at h
  ·rename_i z hz
   split at h
   ·rename_i vs hvs
    exact ⟨i,z,hi,hz,by rw [hvs,b2j h]⟩
   ·cases h
  ·cases h
 ·cases h
theorem a8k {P:Program} {T e:Nat} (h:b5t P T e=true):P.underlying T=some (.slice e):=by
 unfold b5t at h
 split at h
 ·rename_i e' he; rw [he]; simp at h; rw [h]
 ·cases h
section
variable {E:Env} {N:Nat} {st:St} {a:Act} {w:World} {val:Nat->Value} {ow:Nat->Option Nat}
theorem a0e {d:Option Nat} {v:AV} {st st':St} {u:Unit} (h:(setD d v).run st=some (u,st')):∃ d0,d=some d0/\st'=st.put d0 v:=by
 cases d with
 | none=>simp [setD,Ev.run] at h
 | some d0=>exact ⟨d0,rfl,a0g h⟩
theorem d0k (h:Sim E N st a w val ow) (d:Nat) (u:Value) {av:AV} {v:Value} (hq:QS w st val av v):QS w (st.set d .dead) (a0u val d u) av v:=
 b24 (kl:=fun _ _=>false) (fun t q _=>by
  by_cases he:t=d
  ·subst he; exact Stab.norow (t:=t) (st:=st) (st':=st.set t .dead) (Nat.le_refl (st.ep t)) (by simp [a0l]) q
  ·exact Stab.same rfl (by simp [he]) (by simp [a0u,he])) av v hq (fun _ _ _ _ _=>rfl) (fun _ _ _ _ _ _=>rfl)
theorem Sim.layp (h:Sim E N st a w val ow) {j:Nat} (hj:N<=j) {av:AV} {v:Value} {Q:QR} (hQ:∀ a u,Q a u->QS w st val a u) (hr:R w (Mo E w ow) av Q noB v):Sim E N (st.put j av) a w (a0u val j v) ow:=
 h.ghost (fun u=>u=j) (fun t ht=>by simp [a0u]; omega) (fun b u hb=>⟨u,hb⟩) (fun u hu=>by simp [hu,a0u]) (fun u q=>by
  by_cases hu:u=j
  ·subst hu; exact Stab.put (v:=av) (by simp) (by simp [St.put_ep]) q
  ·exact Stab.same (by simp [St.put_ep,hu]) (by simp [hu]) (by simp [a0u,hu]))
  (fun hq hM u hu=>by
   subst hu
   simp only [St.put_s,if_true,a0u]
   exact a0t hM (fun _ _=>rfl) av (fun a u h=>hq a u (hQ a u h)) (fun _ h=>h.elim) (fun _ h=>h.elim) hr)
theorem Sim.fin (h:Sim E N st a w val ow) {d:Nat} (hd:d < N) {av:AV} {v:Value} (hR:R w (Mo E w ow) av (QS w st val) noB v) (hrow:nm av=false) :
  Sim E N (st.put d av) (a.put (some d) v) w (a0u val d v) ow:=by
 have h1:=h.putDead hd v
 have h2:=h1.layd (j:=d) (av:=av) (v:=v) (Q:=QS w st val) (fun _=>by simp [a0u]) (fun a u hq=>d0k h d v hq) hR hrow
 have e:(st.set d .dead).set d av=st.put d av:=by
  rw [a0y _ _ hrow]
  unfold St.set; congr 1; funext u; by_cases hu:u=d<;>simp [hu]
 have e2:a0u (a0u val d v) d v=a0u val d v:=b1s _ _ _ _
 rw [e,e2] at h2
 exact h2
theorem Sim.finJ (h:Sim E N st a w val ow) {d j:Nat} (hd:d < N) (hj:N<=j) :
  ∃ ow',Sim E N ((st.set j .dead).put d (st.s j)) (a.put (some d) (val j)) w (a0u val d (val j)) ow':=by
 have h1:=h.putDead hd (val j)
 have hjd:j≠d:=by omega
 have h2:=h1.pass (t:=j) (j:=d) hjd (av:=st.s j) (v:=val j) (fun _=>by simp [a0u]) (fun Q hQ=>by
  have:=h1.slots j
  simp only [St.set_s,hjd,if_false,a0u] at this
  exact a0t (fun _ h=>h) (fun _ _=>rfl) _ hQ (fun _ h=>h) (fun _ _=>rfl) this)
 have e:(((st.set d .dead).set j .dead).put d (st.s j))=((st.set j .dead).put d (st.s j)):=by
  unfold St.put St.set
  congr 1
  funext u
  by_cases hu:u=d<;>simp [hu]
 have e2:a0u (a0u val d (val j)) d (val j)=a0u val d (val j):=b1s _ _ _ _
 rw [e,e2] at h2
 exact ⟨_,h2⟩
def Done (E:Env) (N:Nat) (P:Program) (o:Oper) (a:Act) (w:World) (st':St):Prop:=
 ∃ x w' val' ow',(execOp a.eval o).run P w= .ok x w'/\((∃ v,x= .value v/\Sim E N st' (a.put o.dst v) w' val' ow')\/(x= .skip/\Sim E N st' (a.put o.dst undef) w' val' ow'))
theorem Done.value {P:Program} {o:Oper} {v:Value} {w':World} {st':St} {val':Nat->Value} {ow':Nat->Option Nat} {d:Nat} (hd:o.dst=some d) (hr:(execOp a.eval o).run P w= .ok (.value v) w')
  (hs:Sim E N st' (a.put (some d) v) w' val' ow'):Done E N P o a w st':=
 ⟨_,w',val',ow',hr,.inl ⟨v,rfl,by rw [hd]; exact hs⟩⟩
theorem a3c {P:Program} {s:Sem Value} {v:Value} {w':World} (h:s.run P w= .ok v w'):(do pure (Next.value (<-s)):Sem Next).run P w= .ok (.value v) w':=by
 rw [Sem.run_bind,h]; rfl
theorem a18 (h:Sim E N st a w val ow) {x:X} (hx:okX N x=true) {v:Value} {st':St} (hr:(b38 x).run st=some (v,st')):st'=st/\a.eval x.op=v:=by
 unfold b38 at hr
 obtain ⟨r,st1,h1,h2⟩:=a0a hr
 obtain ⟨rfl,hR,_⟩:=a0i h hx h1
 obtain ⟨k,e⟩:=r
 cases k<;>simp only [Ev.run_fail,Ev.run_pure,reduceCtorEq,Option.some.injEq,Prod.mk.injEq] at h2
 obtain ⟨rfl,rfl⟩:=h2
 simp only [R] at hR
 exact ⟨rfl,hR⟩
theorem a3r (h:Sim E N st a w val ow) {x:X} (hx:okX N x=true) {n:Int} {st':St} (hr:(b76 x).run st=some (n,st')):st'=st/\∃ k,a.eval x.op= .int k n:=by
 unfold b76 at hr
 obtain ⟨v,st1,h1,h2⟩:=a0a hr
 obtain ⟨rfl,hv⟩:=a18 h hx h1
 cases v<;>simp only [Ev.run_fail,Ev.run_pure,reduceCtorEq,Option.some.injEq,Prod.mk.injEq] at h2
 obtain ⟨rfl,rfl⟩:=h2
 exact ⟨rfl,_,hv⟩
section
variable {P:Program} {o:Oper} {d:Option Nat} {u:Unit} {st':St} {G:GG}
theorem b8a (h:Sim E N st a w val ow) {x:X} (ho:o.op= .move x.op) (hd:∀ d,o.dst=some d->d < N) (hx:okX N x=true) (hr:(mvE x o.dst).run st=some (u,st')):Done E N P o a w st':=by
 have hrun:(execOp a.eval o).run P w= .ok (.value (a.eval x.op)) w:=by simp only [execOp,ho]; rfl
 unfold mvE at hr
 obtain ⟨r,st1,h1,h2⟩:=a0a hr
 obtain ⟨rfl,hR,ht⟩:=a0i h hx h1
 obtain ⟨v,e⟩:=r
 have plain:∀ v:AV,R w (Mo E w ow) v (QS w st1 val) (fun b=>∃ t,x= .t t/\ow b=some t) (a.eval x.op)->a0j v=true->nm v=false->(setD o.dst v).run st1=some (u,st')->Done E N P o a w st':=by
  intro v hR hn hrow hs
  obtain ⟨d0,hd0,rfl⟩:=a0e hs
  exact Done.value hd0 hrun (h.fin (hd d0 hd0) (a1d v hn hR) hrow)
 have frozen:∀ v:AV,(∀ t,x= .t t->st1.s t=v)->(do
   let t<-a99 x
   a9f t (frz v)
   setD o.dst (frz v)).run st1=some (u,st')->Done E N P o a w st':=by
  intro v hv hs
  obtain ⟨t,st2,h3,h4⟩:=a0a hs
  obtain ⟨rfl,rfl⟩:=a1n h3
  obtain ⟨_,st3,h5,h6⟩:=a0a h4
  have:=a1c h5
  subst this
  obtain ⟨d0,hd0,rfl⟩:=a0e h6
  obtain ⟨h7,h8,h9⟩:=ht t rfl
  have hf:=h.freeze t
  have hv':=hv t rfl
  rw [hv'] at hf
  refine Done.value hd0 hrun (hf.fin (hd d0 hd0) ?_ (b8b v))
  have:=hf.slots t
  simp only [St.set_s,if_true] at this
  rw [h9]
  exact a1l (fun b hb=>by
   by_cases hb2:ow b=some t
   ·simp [hb2] at hb
   ·simp [hb2] at hb) this
 cases v with
 | dead=>simp [Ev.run] at h2
 | own sz n ks=>
  cases x with
  | t t=>
   obtain ⟨d0,hd0,rfl⟩:=a0e h2
   obtain ⟨h7,h8,h9⟩:=ht t rfl
   injection h7 with h7 h7e
   refine Done.value hd0 hrun (h.fin (hd d0 hd0) ?_ (by simp [a0l]))
   simp only [R,QS]
   refine ⟨by rw [h7e]; exact Nat.le_refl _,fun _ sz' n0 ks' hk _=> ?_,fun _ keys vals hk=>by simp only [a0c,Option.some.injEq,<-h7,reduceCtorEq] at hk⟩
   simp only [a0c,Option.some.injEq,<-h7,AV.own.injEq] at hk
   obtain ⟨rfl,rfl,rfl⟩:=hk
   have hval:∃ a0 c0,a.eval (X.t t).op= .slice a0 n c0:=by
    simp only [R] at hR
    rcases hR with ⟨h0,_,a0,hv⟩ | ⟨b,c,cur,T,fz,hv,_⟩
    ·exact ⟨a0,0,by rw [h0]; exact hv⟩
    ·exact ⟨_,c,hv⟩
   obtain ⟨a0,c0,hv⟩:=hval
   refine ⟨a0,c0,by rw [<-h9,hv]; rfl,?_⟩
   rw [hv,Nat.zero_mul,a00]
   simp
  | c v=>simp [a1k,Ev.run] at h1
  | nl sz'=>
   refine plain (.sl 0 []) ?_ rfl rfl h2
   simp only [R,X.op,Act.eval]
   exact ⟨none,0,rfl,Nat.le_refl _,[],fun _ h=>by simp at h,by simp [RL],.inl rfl⟩
  | g n=>simp [a1k,Ev.run] at h1
  | f n=>simp [a1k,Ev.run] at h1
 | var ks=>
  obtain ⟨t,st2,h3,h4⟩:=a0a h2
  obtain ⟨rfl,rfl⟩:=a1n h3
  obtain ⟨d0,hd0,rfl⟩:=a0e h4
  obtain ⟨h7,h8,h9⟩:=ht t rfl
  injection h7 with h7 h7e
  refine Done.value hd0 hrun (h.fin (hd d0 hd0) ?_ (by simp [a0l]))
  simp only [R] at hR ⊢
  obtain ⟨b,cur,T,fz,hv,_⟩:=hR
  simp only [QS]
  refine ⟨by rw [h7e]; exact Nat.le_refl _,fun _ k ks' hk hrow _=>⟨_,b,rfl,?_,hv⟩⟩
  rw [<-h9,hv]; rfl
 | lit v0=>exact plain _ hR rfl rfl (by simpa [a0j] using h2)
 | sl n ks=>exact plain _ hR rfl rfl (by simpa [a0j] using h2)
 | ip ks off=>exact plain _ hR rfl rfl (by simpa [a0j] using h2)
 | fn f fs cs=>exact plain _ hR rfl rfl (by simpa [a0j] using h2)
 | ref t q o e=>exact plain _ hR rfl rfl (by simpa [a0j] using h2)
 | bor t q lo n e=>exact plain _ hR rfl rfl (by simpa [a0j] using h2)
 | loan ks=>exact plain _ hR rfl rfl (by simpa [a0j] using h2)
 | mp ks vs=>
  simp only at h2
  split at h2
  ·rename_i hn; exact plain _ hR hn (a5j hn) h2
  ·exact frozen _ (fun t he=>by have:=(ht t he).1; injection this with h1 _; exact h1.symm) h2
 | agg ks=>
  simp only at h2
  split at h2
  ·rename_i hn; exact plain _ hR hn rfl h2
  ·exact frozen _ (fun t he=>by have:=(ht t he).1; injection this with h1 _; exact h1.symm) h2
 | tup ks=>
  simp only at h2
  split at h2
  ·rename_i hn; exact plain _ hR hn rfl h2
  ·exact frozen _ (fun t he=>by have:=(ht t he).1; injection this with h1 _; exact h1.symm) h2
 | ifc T k=>
  simp only at h2
  split at h2
  ·rename_i hn; exact plain _ hR hn rfl h2
  ·exact frozen _ (fun t he=>by have:=(ht t he).1; injection this with h1 _; exact h1.symm) h2
end
end
section
variable {E:Env} {N:Nat} {st:St} {a:Act} {w:World} {val:Nat->Value} {ow:Nat->Option Nat}
variable {P:Program} {o:Oper} {u:Unit} {st':St} {G:GG}
theorem a9j {M:BS} {Q Q':QR} {F:BS} {sz n0 n c0:Nat} {ks:List AV} {a0:Option Addr} (h:R w M (.own sz n0 ks) Q F (.slice a0 n0 c0)) (hn:n<=n0):R w M (.own sz n (ks.take (n*sz))) Q' F (.slice a0 n c0):=by
 have hlen:=a3d h
 simp only [R] at h ⊢
 rcases h with ⟨h0,h1,a1,hv⟩ | ⟨b,c,cur,T,fz,hv,hb,hh,hz,h1,h2,h3,h4,hr⟩
 ·subst h0
  obtain rfl:n=0:=by omega
  injection hv with e1 e2 e3
  subst e1 e3
  have hk:ks=[]:=List.eq_nil_of_length_eq_zero (by simpa using hlen)
  subst hk
  exact .inl ⟨rfl,by simpa using h1,_,rfl⟩
 ·injection hv with e1 e2 e3
  subst e1 e3
  have hle:n*sz<=n0*sz:=Nat.mul_le_mul_right _ hn
  have hc:n0*sz<=cur.size:=by rw [h3]; exact Nat.mul_le_mul_right _ h1
  have htk:cur.toList.take (n*sz)=(cur.toList.take (n0*sz)).take (n*sz):=by rw [List.take_take,Nat.min_eq_left hle]
  refine .inr ⟨b,c0,cur,T,fz,rfl,hb,hh,hz,by omega,h2,h3,fun u hu=>h4 u (by rw [htk] at hu; exact List.mem_of_mem_take hu),?_⟩
  rw [htk]
  have e:ks=ks.take (n*sz)++ks.drop (n*sz):=(List.take_append_drop _ _).symm
  rw [e] at hr
  obtain ⟨v1,v2,hvs,F1,F2,g1,_,_,r1,_⟩:=a16 hr
  have l1:v1.length=n*sz:=by rw [a0m r1,List.length_take,hlen]; omega
  have hv1:(v1++v2).take (n*sz)=v1:=by rw [<-l1,List.take_left]
  rw [hvs,hv1]
  exact a1r g1 r1
theorem Done.of_fin {d:Nat} {v:Value} {w':World} {st1:St} {val1:Nat->Value} {ow1:Nat->Option Nat} {av:AV} (hd:o.dst=some d) (hdN:d < N) (hr:(execOp a.eval o).run P w= .ok (.value v) w')
  (h:Sim E N st1 a w' val1 ow1) (hR:R w' (Mo E w' ow1) av (QS w' st1 val1) noB v) (hrow:nm av=false):Done E N P o a w (st1.put d av):=
 Done.value hd hr (h.fin hdN hR hrow)
theorem Done.of_finJ {d j:Nat} {v:Value} {w':World} {st1:St} {val1:Nat->Value} {ow1:Nat->Option Nat} (hd:o.dst=some d) (hdN:d < N) (hj:N<=j) (hr:(execOp a.eval o).run P w= .ok (.value v) w')
  (h:Sim E N st1 a w' val1 ow1) (hv:val1 j=v):Done E N P o a w ((st1.set j .dead).put d (st1.s j)):=by
 obtain ⟨ow',h2⟩:=h.finJ hdN hj
 rw [hv] at h2
 exact Done.value hd hr h2
theorem Done.thruJ {j:Nat} {v:Value} {w':World} {st1:St} {av:AV} {val1:Nat->Value} {ow1:Nat->Option Nat} (hj:N<=j) (hd:∀ d,o.dst=some d->d < N) (hr:(execOp a.eval o).run P w= .ok (.value v) w')
  (h:Sim E N (st1.put j av) a w' val1 ow1) (hv:val1 j=v) (hs:(a26 j o.dst av).run st1=some (u,st')):Done E N P o a w st':=by
 unfold a26 at hs
 obtain ⟨_,st2,h3,h4⟩:=a0a hs
 have:=a0g h3
 subst this
 obtain ⟨_,st3,h5,h6⟩:=a0a h4
 have:=a0g h5
 subst this
 obtain ⟨d0,hd0,rfl⟩:=a0e h6
 have hf:=Done.of_finJ (P:=P) hd0 (hd d0 hd0) hj hr h hv
 rw [a0y _ j (v:= .dead) (by simp [a0l])]
 simpa using hf
theorem Done.thru {v:Value} {w':World} {st1:St} {av:AV} {val1:Nat->Value} {ow1:Nat->Option Nat} (hd:∀ d,o.dst=some d->d < N) (hr:(execOp a.eval o).run P w= .ok (.value v) w')
  (h:Sim E N (st1.put N av) a w' val1 ow1) (hv:val1 N=v) (hs:(a26 N o.dst av).run st1=some (u,st')):Done E N P o a w st':=Done.thruJ (Nat.le_refl N) hd hr h hv hs
theorem b4q (h:Sim E N st a w val ow) {x:X} (ho:o.op= .assign x.op\/o.op= .move x.op) (hd:∀ d,o.dst=some d->d < N) (hx:okX N x=true) (hr:(c60 N x o.dst).run st=some (u,st')):Done E N P o a w st':=by
 have hrun:(execOp a.eval o).run P w= .ok (.value (a.eval x.op)) w:=by rcases ho with ho | ho<;>(simp only [execOp,ho]; rfl)
 unfold c60 at hr
 obtain ⟨r,st1,h1,h2⟩:=a0a hr
 obtain ⟨rfl,hR,ht⟩:=a0i h hx h1
 obtain ⟨v,e⟩:=r
 have move:∀ v:AV,R w (Mo E w ow) v (QS w st1 val) (fun b=>∃ t,x= .t t/\ow b=some t) (a.eval x.op)->(∀ t,x= .t t->st1.s t=v)->
   (a66 N o.dst x v).run st1=some (u,st')->Done E N P o a w st':=by
  intro v hR hv hs
  have still:(setD o.dst v).run st1=some (u,st')->a0j v=true->Done E N P o a w st':=fun hs hn=>by
   obtain ⟨d0,hd0,rfl⟩:=a0e hs
   exact Done.of_fin hd0 (hd d0 hd0) hrun h (a1d v hn hR) (a5j hn)
  have lone:(∀ t,x≠ .t t)->(if a0j v then setD o.dst v else a26 N o.dst v:Ev Unit).run st1=some (u,st')->Done E N P o a w st':=fun hxt hs=>by
   split at hs
   ·rename_i hn; exact still hs hn
   ·have hR':R w (Mo E w ow) v (QS w st1 val) noB (a.eval x.op):=a1l (fun b ⟨t,ht,_⟩=>absurd ht (hxt t)) hR
    exact Done.thru hd hrun (h.layp (Nat.le_refl N) (fun _ _ h=>h) hR') (by simp [a0u]) hs
  cases x with
  | t t=>
   simp only [a66] at hs
   split at hs
   ·rename_i hn; exact still hs hn
   ·obtain ⟨_,st2,h3,h4⟩:=a0a hs
    have:=a0g h3
    subst this
    obtain ⟨h7,h8,h9⟩:=ht t rfl
    have hp:=h.pass (t:=t) (j:=N) (by omega) (av:=v) (v:=val t) (fun hlt=>by omega) (fun Q hQ=>a0t (fun _ h=>h) (fun _ _=>rfl) _ hQ (fun _ h=>h) (fun _ _=>rfl) (by rw [<-hv t rfl]; exact h.slots t))
    rw [a0y _ t (by simp [a0l])] at h4
    exact Done.thru hd hrun hp (by simp [a0u,h9]) h4
  | c v0=>exact lone (fun t he=>by cases he) hs
  | nl sz=>exact lone (fun t he=>by cases he) hs
  | g n=>exact lone (fun t he=>by cases he) hs
  | f n=>exact lone (fun t he=>by cases he) hs
 have hv:∀ t,x= .t t->st1.s t=v:=fun t he=>by have:=(ht t he).1; injection this with h1 _; exact h1.symm
 cases v with
 | dead=>simp [Ev.run] at h2
 | bor t q lo n e1=>
  obtain ⟨r2,st2,h3,h4⟩:=a0a h2
  obtain ⟨rfl,rfl⟩:=a09 h3
  obtain ⟨_,st3,h5,h6⟩:=a0a h4
  obtain ⟨h7,rfl⟩:=a0b h5
  obtain ⟨k,st4,h8,h9⟩:=a0a h6
  obtain ⟨hk,rfl⟩:=a0r h8
  simp only [Bool.and_eq_true,beq_iff_eq,decide_eq_true_eq] at h7
  simp only at hk
  cases k<;>simp only [Ev.run_fail,reduceCtorEq] at h9
  case own sz n0 ks=>
   obtain ⟨_,st5,g1,g2⟩:=a0a h9
   obtain ⟨g3,rfl⟩:=a0b g1
   have hlo:lo+n<=n0:=by simpa using g3
   simp only [R,QS] at hR
   obtain ⟨a0,c0,hv0,hvx⟩:=hR.2.1 h7.1 sz n0 ks hk hlo
   split at g2
   ·rename_i hcond
    simp only [Bool.and_eq_true,List.isEmpty_iff,beq_iff_eq] at hcond
    obtain ⟨rfl,rfl⟩:=hcond
    obtain ⟨_,st6,g4,g5⟩:=a0a g2
    have:=a0g g4
    subst this
    simp only [a0c,Option.some.injEq] at hk
    simp only [a06,Option.some.injEq] at hv0
    have hvx':a.eval x.op= .slice a0 n c0:=by
     rw [hvx,Nat.zero_mul,a00]; simp
    have hp:=h.pass (t:=t) (j:=N) (by omega) (av:= .own sz n (ks.take (n*sz))) (v:=a.eval x.op) (fun hlt=>by omega) (fun Q hQ=>by
     rw [hvx']
     have:=h.slots t
     rw [hk,hv0] at this
     exact a9j this (by omega))
    rw [a0y _ t (by simp [a0l])] at g5
    exact Done.thru hd hrun hp (by simp [a0u]) g5
   ·obtain ⟨_,st6,g4,g5⟩:=a0a g2
    have:=a1c g4
    subst this
    obtain ⟨d0,hd0,rfl⟩:=a0e g5
    obtain ⟨ow',hf⟩:=h.freezeNode hk
    have hnode:=a02 q (k':=frz (.own sz n0 ks)) hk
    obtain ⟨u1,hu1,Fk,G,_,_,_,hr1,_⟩:=a32 q (by have:=hf.slots t; simp only [St.set_s,if_true] at this; exact this) hnode
    rw [hv0] at hu1
    injection hu1 with hu1
    have hlen:ks.length=n0*sz:=by
     obtain ⟨u2,hu2,Fk2,G2,_,_,_,hr2,_⟩:=a32 q (h.slots t) hk
     exact a3d hr2
    subst hu1
    have hsub:=a6c (w:=w) (M:=Mo E w ow') (lo:=lo) (n:=n) (sz:=sz) (ks:=a1b ks) (n0:=n0) (a0:=a0) (c0:=c0) (Q:=_) (F:=Fk) (by rw [frz] at hr1; exact hr1) (by rw [a10,hlen]) hlo
    rw [<-hvx] at hsub
    exact Done.of_fin hd0 (hd d0 hd0) hrun hf (a0t (fun _ h=>h) (fun _ _=>rfl) _ (fun _ _ h=>h.elim) (fun _ h=>h) (fun _ _=>rfl) hsub) (by simp [a0l])
 | own sz n ks=>exact move _ hR hv h2
 | var ks=>exact move _ hR hv h2
 | lit v0=>exact move _ hR hv h2
 | sl n ks=>exact move _ hR hv h2
 | ip ks off=>exact move _ hR hv h2
 | fn f fs cs=>exact move _ hR hv h2
 | ref t q o e=>exact move _ hR hv h2
 | agg ks=>exact move _ hR hv h2
 | tup ks=>exact move _ hR hv h2
 | ifc T k=>exact move _ hR hv h2
 | mp ks vs=>exact move _ hR hv h2
 | loan ks=>exact move _ hR hv h2
end
section
variable {E:Env} {N:Nat} {st:St} {a:Act} {w:World} {val:Nat->Value} {ow:Nat->Option Nat}
variable {P:Program} {o:Oper} {u:Unit} {st':St} {G:GG}
theorem a5w {j:Nat} {st st':St} {ks:List AV} (h:(b5z j).run st=some (ks,st')):st.s j= .agg ks/\st'=st:=by
 unfold b5z at h
 obtain ⟨r,st1,h1,h2⟩:=a0a h
 obtain ⟨rfl,rfl⟩:=a9l h1
 split at h2
 ·rename_i ks' hk
  simp only [Ev.run_pure,Option.some.injEq,Prod.mk.injEq] at h2
  exact ⟨by rw [hk,h2.1],h2.2.symm⟩
 ·simp [Ev.run] at h2
theorem b9g (h:Sim E N st a w val ow) {c x y:X} (ho:o.op= .pick c.op x.op y.op) (hd:∀ d,o.dst=some d->d < N) (hc:okX N c=true) (hx:okX N x=true) (hy:okX N y=true)
  (hr:(a0w G N o.dst (.pick c x y)).run st=some (u,st')):Done E N P o a w st':=by
 simp only [a0w] at hr
 obtain ⟨rc,st1,h1,h2⟩:=a0a hr
 obtain ⟨rfl,hvc⟩:=a18 h hc h1
 obtain ⟨ra,st2,h3,h4⟩:=a0a h2
 obtain ⟨rfl,hRa,_⟩:=a0i h hx h3
 obtain ⟨rb,st3,h5,h6⟩:=a0a h4
 obtain ⟨rfl,hRb,_⟩:=a0i h hy h5
 obtain ⟨va,ea⟩:=ra
 obtain ⟨vb,eb⟩:=rb
 simp only at h6 hRa hRb
 obtain ⟨v,st4,h7,h8⟩:=a0a h6
 obtain ⟨hp,rfl⟩:=a0r h7
 obtain ⟨d0,hd0,rfl⟩:=a0e h8
 have hrun:∀ b:Bool,rc= .bool b->(execOp a.eval o).run P w= .ok (.value (if b then a.eval x.op else a.eval y.op)) w:=fun b hb=>by
  subst hb
  simp only [execOp,ho,hvc,asBool]
  rfl
 have key:∃ c v',rc= .bool c/\v= .lit v'/\(if c then a.eval x.op else a.eval y.op)=v':=by
  unfold b8d at hp
  split at hp<;>simp only [Option.some.injEq,reduceCtorEq] at hp
  ·simp only [R] at hRa hRb
   exact ⟨_,_,rfl,hp.symm,by rw [hRa,hRb]⟩
  ·simp only [R] at hRa
   exact ⟨true,_,rfl,hp.symm,by rw [hRa]; rfl⟩
  ·simp only [R] at hRb
   exact ⟨false,_,rfl,hp.symm,by rw [hRb]; rfl⟩
 obtain ⟨c',v',rfl,rfl,hv⟩:=key
 refine Done.of_fin hd0 (hd d0 hd0) (hrun c' rfl) h ?_ rfl
 simp only [R]
 exact hv
theorem b7x {w':World} {M F:BS} {b:Nat} {arr:Array Value} {T:TypeId} {ks:List AV} (hF:F b) (hh:w'.heap[b]? =some (.cells arr T (0,0))) (hc:C1 arr.toList) (hr:RL w' M ks noQ (fun x=>F x/\x≠b) arr.toList) :
  R w' M (.var ks) noQ F (.pointer (some ⟨b,0,none⟩)):=by
 simp only [R]
 exact ⟨b,arr,T,(0,0),rfl,hF,hh,.inl rfl,hc,hr⟩
theorem b6f (h:Sim E N st a w val ow) {T:TypeId} {zs:List AV} (ho:o.op= .alloc T) (hd:∀ d,o.dst=some d->d < N) (hz:b36 P T zs=true)
  (hr:(a0w G N o.dst (.alloc T zs)).run st=some (u,st')):Done E N P o a w st':=by
 simp only [a0w] at hr
 obtain ⟨i,z,hi,hz0,hzv⟩:=a4u hz
 obtain ⟨hzr,hzc⟩:=a6s (w:=w) (M:=Mo E w ow) hzv
 have hrun:(execOp a.eval o).run P w= .ok (.value (.pointer (some ⟨w.heap.size,0,none⟩))) (w.alloc (.cells z.cells T)):=by
  simp only [execOp,ho]
  refine a3c ?_
  simp [Instr.alloc,zeroValue,typeInfo,hi,hz0,newVar,newRow]
 have h1:=h.layp (j:=N) (av:= .agg zs) (v:= .agg z.cells) (Q:=noQ) (Nat.le_refl N) (fun _ _ h=>h.elim) (by simp only [R]; exact ⟨_,rfl,hzc,hzr⟩)
 obtain ⟨arr,harr,hal⟩:=h1.alloc (Nat.le_refl N) (ks:=zs) (by simp)
 simp only [a0u,if_true] at harr
 injection harr with harr
 subst harr
 have h2:=hal z.cells T (0,0) (w.alloc (.cells z.cells T)) (.var zs) (.pointer (some ⟨w.heap.size,0,none⟩)) rfl rfl rfl rfl (fun M F hF hh hc hr=>b7x hF hh hc hr)
 rw [b7g _ _ _ _ (by simp [a0l])] at h2
 exact Done.thru hd hrun h2 (by simp [a0u]) hr
theorem b9z (h:Sim E N st a w val ow) {T:TypeId} {sz:Nat} {x:X} (ho:o.op= .box T x.op) (hd:∀ d,o.dst=some d->d < N) (hx:okX N x=true)
  (hr:(a0w G N o.dst (.box T sz x)).run st=some (u,st')):Done E N P o a w st':=by
 simp only [a0w] at hr
 obtain ⟨_,st1,h1,h2⟩:=a0a hr
 obtain ⟨val1,ow1,ks,hs1,hk1,hsN,hvN⟩:=a8d h hx rfl h1
 obtain ⟨ks',st2,h3,h4⟩:=a0a h2
 obtain ⟨hks,rfl⟩:=a5w h3
 rw [hsN] at hks
 injection hks with hks
 subst hks
 obtain ⟨_,st3,h5,h6⟩:=a0a h4
 obtain ⟨_,rfl⟩:=a0b h5
 obtain ⟨arr,harr,hal⟩:=hs1.alloc (Nat.le_refl N) hsN
 rw [hvN] at harr
 injection harr with harr
 have hrun:(execOp a.eval o).run P w= .ok (.value (.pointer (some ⟨w.heap.size,0,none⟩))) (w.alloc (.cells arr T)):=by
  simp only [execOp,ho]
  refine a3c ?_
  simp [Instr.box,newVar,newRow,harr]
 have h7:=hal arr T (0,0) (w.alloc (.cells arr T)) (.var ks) (.pointer (some ⟨w.heap.size,0,none⟩)) rfl rfl rfl rfl (fun M F hF hh hc hr=>b7x hF hh hc hr)
 exact Done.thru hd hrun h7 (by simp [a0u]) h6
def b4x:Array Value->List (Nat×Nat×Value)->Option (Array Value)
 | cs,[]=>some cs
 | cs,(off,sz,v)::rest=>if v.cells.size≠sz||off+v.cells.size > cs.size then none else b4x (a0o cs.toList off v.cells.toList).toArray rest
theorem b0s (off:Nat):∀ (xs:List Value) (k:Nat) (cs:Array Value),off+k+xs.length<=cs.size->
  ((xs.zipIdx k).foldl (fun (cs:Array Value) (p:Value×Nat)=>cs.setIfInBounds (off+p.2) p.1) cs)=(a0o cs.toList (off+k) xs).toArray
 | [],k,cs,_=>by simp [a0o]
 | x::xs,k,cs,h=>by
  simp only [List.length_cons] at h
  simp only [List.zipIdx_cons,List.foldl_cons]
  rw [b0s off xs (k+1) _ (by simp; omega)]
  congr 1
  unfold a0o
  simp only [Array.toList_setIfInBounds,List.length_cons]
  have h1:(cs.toList.set (off+k) x).take (off+(k+1))=cs.toList.take (off+k)++[x]:=by
   apply List.ext_getElem?
   intro j
   have hlt:off+k < cs.toList.length:=by simp; omega
   rw [List.getElem?_take,List.getElem?_set]
   by_cases hj:j < off+k
   ·rw [List.getElem?_append_left (by simp; omega),List.getElem?_take]
    simp [hj,show j < off+(k+1) by omega,show ¬ off+k=j by omega]
   ·by_cases hj2:j=off+k
    ·subst hj2
     rw [List.getElem?_append_right (by simp; omega)]
     have:(cs.toList.take (off+k)).length=off+k:=by simp; omega
     simp [this,hlt,show off+k < off+(k+1) by omega]
     try omega
    ·rw [List.getElem?_append_right (by simp; omega)]
     have:(cs.toList.take (off+k)).length=off+k:=by simp; omega
     rw [this]
     have:¬ j < off+(k+1):=by omega
     simp [this,show j - (off+k)≠0 by omega]
     try omega
  have h2:(cs.toList.set (off+k) x).drop (off+(k+1)+xs.length)=cs.toList.drop (off+k+(xs.length+1)):=by
   rw [List.drop_set]
   rw [if_pos (by omega)]
   congr 1
   omega
  rw [h1,h2]
  simp
theorem b6q (place:Nat->Option (Nat×Nat)):∀ (ps:List (Nat×Nat×Nat×Value)) (cs:Array Value),(∀ p∈ps,place p.1=some (p.2.1,p.2.2.1))->
  Instr.fill place cs (ps.map fun p=>(p.1,p.2.2.2))=b4x cs (ps.map fun p=>p.2)
 | [],cs,_=>rfl
 | (i,off,sz,v)::ps,cs,h=>by
  have h0:=h (i,off,sz,v) (by simp)
  simp only at h0
  simp only [List.map_cons,Instr.fill,h0,b4x]
  by_cases hc:v.cells.size≠sz||off+v.cells.size > cs.size
  ·rw [if_pos hc,if_pos hc]
  ·rw [if_neg hc,if_neg hc,<-b6q place ps _ (fun p hp=>h p (by simp [hp]))]
   congr 1
   simp only [Bool.or_eq_true,decide_eq_true_eq,not_or,Nat.not_lt] at hc
   have:=b0s off v.cells.toList 0 cs (by have:=hc.2; simp; omega)
   rw [Nat.add_zero] at this
   rw [<-this]
   rw [<-Array.foldl_toList]
   simp [Array.toList_zipIdx]
theorem a7e:∀ (parts:List (Nat×Nat×X)) {st st':St} {val:Nat->Value} {ow:Nat->Option Nat} {zs:List AV} {cs:Array Value} {u:Unit},Sim E N st a w val ow->(∀ p∈parts,okX N p.2.2=true)->st.s (N+1)= .agg zs->val (N+1)= .agg cs->
  (a52 N parts).run st=some (u,st')->∃ val' ow' zs' cs',Sim E N st' a w val' ow'/\(∀ t,t < N->val' t=val t)/\st'.s (N+1)= .agg zs'/\val' (N+1)= .agg cs'/\b4x cs (parts.map fun p=>(p.1,p.2.1,a.eval p.2.2.op))=some cs'
 | [],st,st',val,ow,zs,cs,u,h,_,hs,hv,hr=>by
  simp only [a52,Ev.run_pure,Option.some.injEq,Prod.mk.injEq] at hr
  obtain ⟨_,rfl⟩:=hr
  exact ⟨val,ow,zs,cs,h,fun _ _=>rfl,hs,hv,rfl⟩
 | (off,sz,x)::rest,st,st',val,ow,zs,cs,u,h,hok,hs,hv,hr=>by
  simp only [a52] at hr
  obtain ⟨_,st1,h1,h2⟩:=a0a hr
  obtain ⟨val1,ow1,ks,hs1,hk1,hsN,hvN⟩:=a8d h (hok (off,sz,x) (by simp)) rfl h1
  obtain ⟨ks',st2,h3,h4⟩:=a0a h2
  obtain ⟨hks,rfl⟩:=a5w h3
  rw [hsN] at hks
  injection hks with hks
  subst hks
  obtain ⟨zs',st3,h5,h6⟩:=a0a h4
  obtain ⟨hzs,rfl⟩:=a5w h5
  rw [hk1.scratch (N+1) (by omega) (by omega),hs] at hzs
  injection hzs with hzs
  subst hzs
  obtain ⟨_,st4,h7,h8⟩:=a0a h6
  obtain ⟨hg,rfl⟩:=a0b h7
  simp only [Bool.and_eq_true,decide_eq_true_eq] at hg
  obtain ⟨_,st5,h9,h10⟩:=a0a h8
  have:=a0g h9
  subst this
  obtain ⟨_,st6,h11,h12⟩:=a0a h10
  have:=a0g h11
  subst this
  rw [a0y _ N (by simp [a0l])] at h12
  have hzs1:st4.s (N+1)= .agg zs:=by rw [hk1.scratch (N+1) (by omega) (by omega),hs]
  have hv1:val1 (N+1)= .agg cs:=by rw [hk1.val (N+1) (by omega),hv]
  have rN:=hs1.slots N
  have rN1:=hs1.slots (N+1)
  rw [hsN,hvN] at rN
  rw [hzs1,hv1] at rN1
  simp only [R] at rN rN1
  obtain ⟨a1,ha1,c1,r1⟩:=rN
  obtain ⟨a2,ha2,c2,r2⟩:=rN1
  injection ha1 with ha1
  injection ha2 with ha2
  subst ha1 ha2
  have l1:=a0m r1
  have l2:=a0m r2
  rw [Array.length_toList] at l1 l2
  have hm:=hs1.merge (t:=N) (j:=N+1) (by omega) (by omega) (av:= .agg (a0o zs off ks)) (v:= .agg (a0o cs.toList off (a.eval x.op).cells.toList).toArray) (fun F hF1 hF2=>by
   simp only [R]
   refine ⟨_,rfl,b4e c2 c1,?_⟩
   exact a1r (by rintro b (hb | hb)
                 ·exact hF2 b hb
                 ·exact hF1 b hb) (b4l r2 r1 (fun b hb hb2=>by rw [hb] at hb2; injection hb2 with hb2; omega) (by omega)))
  obtain ⟨val2,ow2,zs2,cs2,g1,g2,g3,g4,g5⟩:=a7e rest hm (fun p hp=>hok p (by simp [hp])) (zs:=a0o zs off ks) (cs:=(a0o cs.toList off (a.eval x.op).cells.toList).toArray) (by simp) (by simp [a0u]) h12
  refine ⟨val2,ow2,zs2,cs2,g1,fun t ht=>by rw [g2 t ht]; simp only [a0u,show t≠N+1 by omega,if_false]; exact hk1.val t (by omega),g3,g4,?_⟩
  simp only [List.map_cons,b4x]
  rw [if_neg (by simp; omega)]
  exact g5
end
open Classical
section
variable {E:Env} {N:Nat} {st:St} {a:Act} {w:World} {val:Nat->Value} {ow:Nat->Option Nat}
variable {P:Program} {o:Oper} {u:Unit} {st':St} {G:GG}
theorem b9h {av:AV} {q:List Nat} {ks:List AV} (h:a2u av q=some ks):∃ k,a0c av q=some k/\a0l k=some ks:=by
 rw [b2w] at h
 cases hk:a0c av q with
 | none=>simp [hk] at h
 | some k=>exact ⟨k,rfl,by simpa [hk] using h⟩
theorem a3u (h:Sim E N st a w val ow) {x:X} (hx:okX N x=true) {t o1 e:Nat} {q:List Nat} {v:AV} {ks:List AV} {st':St} (hr:(b8h x).run st=some ((t,q,o1,v,e,ks),st')) :
  st'=st/\v=st.s t/\e=st.ep t/\a2u (st.s t) q=some ks/\o1 < ks.length/\∃ u b,a06 w (val t) q=some u/\a8f u=some b/\blk w (val t) q=some b/\a.eval x.op= .pointer (some ⟨b,o1,none⟩):=by
 unfold b8h at hr
 obtain ⟨⟨t',q',o'⟩,st1,h1,h2⟩:=a0a hr
 obtain ⟨rfl,hp⟩:=b0n h hx h1
 obtain ⟨r,st2,h3,h4⟩:=a0a h2
 obtain ⟨rfl,rfl⟩:=a09 h3
 obtain ⟨ks',st3,h5,h6⟩:=a0a h4
 obtain ⟨h7,rfl⟩:=a0r h5
 obtain ⟨_,st4,h8,h9⟩:=a0a h6
 obtain ⟨h10,rfl⟩:=a0b h8
 simp only [Ev.run_pure,Option.some.injEq,Prod.mk.injEq] at h9
 obtain ⟨⟨rfl,rfl,rfl,rfl,rfl,rfl⟩,rfl⟩:=h9
 simp only at h7
 obtain ⟨k,hk,hrow⟩:=b9h h7
 have hlt:o' < ks'.length:=by simpa using h10
 have hne:ks'≠[]:=by intro he; rw [he] at hlt; simp at hlt
 obtain ⟨u,b,g1,g2,g3⟩:=hp k ks' hk hrow hne
 exact ⟨rfl,rfl,rfl,h7,hlt,u,b,g1,g2,by rw [b9y,g1]; exact g2,g3⟩
theorem b4k {t e o1:Nat} {q:List Nat} {u:Value} {b:Nat} (he:e<=st.ep t) (hv:a06 w (val t) q=some u) (hb:a8f u=some b):QS w st val (.ref t q o1 e) (.pointer (some ⟨b,o1,none⟩)):=by
 simp only [QS]
 exact ⟨he,fun _ k ks _ _ _=>⟨u,b,hv,hb,rfl⟩⟩
theorem b7a (h:Sim E N st a w val ow) {x:X} (ho:o.op= .nilCheck x.op) (hd:∀ d,o.dst=some d->d < N) (hx:okX N x=true)
  (hr:(a0w G N o.dst (.nilck x)).run st=some (u,st')):Done E N P o a w st':=by
 simp only [a0w] at hr
 obtain ⟨r,st1,h1,h2⟩:=a0a hr
 obtain ⟨rfl,hR,ht⟩:=a0i h hx h1
 obtain ⟨v,e⟩:=r
 have hrun:∀ ad,a.eval x.op= .pointer (some ad)->(execOp a.eval o).run P w= .ok (.value (a.eval x.op)) w:=fun ad hp=>by simp only [execOp,ho,hp]; rfl
 simp only at h2 hR
 split at h2
 ·rename_i ks off
  obtain ⟨d0,hd0,rfl⟩:=a0e h2
  have hv:∃ ad,a.eval x.op= .pointer (some ad):=by
   simp only [R] at hR
   obtain ⟨b,o,vs,hv,_⟩:=hR
   exact ⟨_,hv⟩
  obtain ⟨ad,hp⟩:=hv
  exact Done.of_fin hd0 (hd d0 hd0) (hrun ad hp) h (a1d _ rfl hR) rfl
 ·rename_i f fs cs
  obtain ⟨d0,hd0,rfl⟩:=a0e h2
  have hv:∃ a1 a2,a.eval x.op= .func (.func f) a1 a2:=by
   simp only [R] at hR
   obtain ⟨a1,a2,hv,_⟩:=hR
   exact ⟨a1,a2,hv⟩
  obtain ⟨a1,a2,hp⟩:=hv
  have hrun:(execOp a.eval o).run P w= .ok (.value (a.eval x.op)) w:=by simp only [execOp,ho,hp]; rfl
  exact Done.of_fin hd0 (hd d0 hd0) hrun h (a1d _ rfl hR) rfl
 ·obtain ⟨⟨t,q,o1,v1,e1,ks⟩,st2,h3,h4⟩:=a0a h2
  obtain ⟨rfl,rfl,rfl,hrow,hlt,u1,b,g1,g2,g3,g4⟩:=a3u h hx h3
  obtain ⟨d0,hd0,rfl⟩:=a0e h4
  refine Done.of_fin hd0 (hd d0 hd0) (hrun _ g4) h ?_ rfl
  simp only [R]
  rw [g4]
  exact b4k (Nat.le_refl _) g1 g2
theorem b6p (h:Sim E N st a w val ow) {T off f:Nat} {x:X} (ho:o.op= .fieldAddr T x.op f) (hd:∀ d,o.dst=some d->d < N) (hok:a3m P N (.faddr T off x f)=true)
  (hr:(a0w G N o.dst (.faddr T off x f)).run st=some (u,st')):Done E N P o a w st':=by
 simp only [a3m,Bool.and_eq_true] at hok
 obtain ⟨hx,hok⟩:=hok
 have hrun:∀ b o1,a.eval x.op= .pointer (some ⟨b,o1,none⟩)->(execOp a.eval o).run P w= .ok (.value (.pointer (some ⟨b,o1+off,none⟩))) w:=fun b o1 hp=>by
  split at hok
  ·rename_i fs hu
   split at hok
   ·rename_i fl hf
    simp only [Bool.and_eq_true,beq_iff_eq] at hok
    obtain ⟨h1,h2⟩:=hok
    split at h2
    ·rename_i i hi
     have hi0:i.size≠0:=by simpa using h2
     simp only [execOp,ho,hp]
     refine a3c ?_
     simp [Instr.fieldAt,run_underlying hu,hf,Instr.sureAddr,fieldPlace,sizeOf,typeInfo,hi,hi0,a1u,h1]
    ·cases h2
   ·cases hok
  ·cases hok
 simp only [a0w] at hr
 obtain ⟨r,st1,h1,h2⟩:=a0a hr
 obtain ⟨rfl,hR,ht⟩:=a0i h hx h1
 obtain ⟨v,e⟩:=r
 simp only at h2 hR
 split at h2
 ·rename_i ks o1
  obtain ⟨d0,hd0,rfl⟩:=a0e h2
  simp only [R] at hR
  obtain ⟨b,o2,vs,hv,hb,hc,hr1,hcell⟩:=hR
  refine Done.of_fin hd0 (hd d0 hd0) (hrun _ _ hv) h ?_ rfl
  simp only [R]
  exact ⟨b,o2,vs,by rw [Nat.add_assoc],hb,hc,hr1,hcell⟩
 ·obtain ⟨⟨t,q,o1,v1,e1,ks⟩,st2,h3,h4⟩:=a0a h2
  obtain ⟨rfl,rfl,rfl,hrow,hlt,u1,b,g1,g2,g3,g4⟩:=a3u h hx h3
  obtain ⟨d0,hd0,rfl⟩:=a0e h4
  refine Done.of_fin hd0 (hd d0 hd0) (hrun _ _ g4) h ?_ rfl
  simp only [R]
  exact b4k (Nat.le_refl _) g1 g2
theorem b6d (h:Sim E N st a w val ow) {T off k:Nat} {x:X} (ho:o.op= .indexAddr T x.op (.const (.int .i64 k))) (hd:∀ d,o.dst=some d->d < N) (hok:a3m P N (.aaddr T off x k)=true)
  (hr:(a0w G N o.dst (.aaddr T off x k)).run st=some (u,st')):Done E N P o a w st':=by
 simp only [a3m,Bool.and_eq_true] at hok
 obtain ⟨hx,hok⟩:=hok
 have hrun:∀ b o1,a.eval x.op= .pointer (some ⟨b,o1,none⟩)->(execOp a.eval o).run P w= .ok (.value (.pointer (some ⟨b,o1+off,none⟩))) w:=fun b o1 hp=>by
  split at hok
  ·rename_i n e hu
   simp only [Bool.and_eq_true,decide_eq_true_eq] at hok
   obtain ⟨hk,h2⟩:=hok
   split at h2
   ·rename_i i hi
    have h2:off=k*i.size:=by simpa using h2
    have hk1:(0:Int)<=(k:Int)/\(k:Int) < (n:Int):=⟨by omega,by omega⟩
    have hev:a.eval (.const (.int .i64 (k:Int)))= .int .i64 (k:Int):=rfl
    simp only [execOp,ho,hp,hev]
    refine a3c ?_
    simp [Instr.indexAt,asIntOf,run_underlying hu,Instr.sureAddr,sizeOf,typeInfo,hi,hk1,hk,a1u,h2]
   ·cases h2
  ·cases hok
 simp only [a0w] at hr
 obtain ⟨r,st1,h1,h2⟩:=a0a hr
 obtain ⟨rfl,hR,ht⟩:=a0i h hx h1
 obtain ⟨v,e⟩:=r
 simp only at h2 hR
 split at h2
 ·rename_i ks o1
  obtain ⟨d0,hd0,rfl⟩:=a0e h2
  simp only [R] at hR
  obtain ⟨b,o2,vs,hv,hb,hc,hr1,hcell⟩:=hR
  refine Done.of_fin hd0 (hd d0 hd0) (hrun _ _ hv) h ?_ rfl
  simp only [R]
  exact ⟨b,o2,vs,by rw [Nat.add_assoc],hb,hc,hr1,hcell⟩
 ·obtain ⟨⟨t,q,o1,v1,e1,ks⟩,st2,h3,h4⟩:=a0a h2
  obtain ⟨rfl,rfl,rfl,hrow,hlt,u1,b,g1,g2,g3,g4⟩:=a3u h hx h3
  obtain ⟨d0,hd0,rfl⟩:=a0e h4
  refine Done.of_fin hd0 (hd d0 hd0) (hrun _ _ g4) h ?_ rfl
  simp only [R]
  exact b4k (Nat.le_refl _) g1 g2
theorem b83 {b:BinOp} {x y r:AV} (h:b64 b x y=some r):∃ u v r',x= .lit u/\y= .lit v/\a1f b u v=some r'/\r= .lit r':=by
 cases x<;>cases y<;>simp only [b64,reduceCtorEq] at h
 rename_i u v
 cases hb:a1f b u v with
 | none=>simp [hb] at h
 | some r'=>simp only [hb,Option.map_some,Option.some.injEq] at h; exact ⟨u,v,r',rfl,rfl,hb,h.symm⟩
theorem b8n {b:BinOp} {T:TypeId} {u v r:Value} {x y:Operand} (hb:a1f b u v=some r) (P:Program) (w:World):(do eqGuard b T x y u v; binOp b T u v:Sem Value).run P w= .ok r w:=by
 have hg:(eqGuard b T x y u v).run P w= .ok () w:=by
  unfold a1f at hb
  split at hb<;>first
   | (cases b<;>rfl)
   | rfl
   | (simp at hb; done)
 rw [Sem.run_bind,hg]
 show (binOp b T u v).run P w= .ok r w
 unfold a1f at hb
 split at hb
 ·exact a4t hb P w
 ·exact a4t hb P w
 ·split at hb
  ·rename_i hk
   subst hk
   cases b<;>simp only [binOp]<;>first
    | (rw [if_neg (by simp)]; exact a4t hb P w)
    | exact a4t hb P w
    | (simp at *; done)
  ·cases hb
 ·cases hb
 ·cases b<;>first
   | exact a4t hb P w
   | (simp at *; done)
 ·cases hb
theorem b8m (h:Sim E N st a w val ow) {b:BinOp} {T:Nat} {x y:X} {yT:Nat} {rx ry v:AV} {d0:Nat} (ho:o.op= .binOp b T x.op y.op yT) (hd0:o.dst=some d0) (hdN:d0 < N) 
  (hRx:R w (Mo E w ow) rx (QS w st val) (fun b=>∃ t,x= .t t/\ow b=some t) (a.eval x.op)) (hRy:R w (Mo E w ow) ry (QS w st val) (fun b=>∃ t,y= .t t/\ow b=some t) (a.eval y.op)) (h7:b64 b rx ry=some v) :
  Done E N P o a w (st.put d0 v):=by
 obtain ⟨u1,v1,r,rfl,rfl,hb,rfl⟩:=b83 h7
 simp only [R] at hRx hRy
 have hrun:(execOp a.eval o).run P w= .ok (.value r) w:=by
  simp only [execOp,ho]
  rw [hRx,hRy]
  exact a3c (b8n hb P w)
 exact Done.of_fin (av:= .lit r) hd0 hdN hrun h (by simp only [R]) rfl
def eqT (P:Program) (kd T:Nat):Prop:=match kd with
 | 1=>P.underlying T=some .bool
 | 2=>∃ ms,P.underlying T=some (.interface ms)
 | 3=>∃ e,P.underlying T=some (.pointer e)
 | _=>False
theorem c2d {kd:Nat} {T:TypeId} {x y:AV} {r:Bool} {M:BS} {Q:QR} {F F2:BS} {vx vy:Value} (h:c0d kd x y=some r) (hx:R w M x Q F vx) (hy:R w M y Q F2 vy)
  (hT:eqT P kd T) (n:Nat):(Op.equalIn (n+1) T vx vy).run P w= .ok r w:=by
 unfold c0d at h
 split at h<;>simp only [Option.some.injEq,reduceCtorEq] at h<;>subst h<;>simp only [R,eqT] at hx hy hT
 ·subst hx hy
  simp [Op.equalIn,run_underlying hT]
 ·obtain ⟨ms,hT⟩:=hT
  subst hx hy
  simp [Op.equalIn,run_underlying hT]
 ·obtain ⟨ms,hT⟩:=hT
  obtain ⟨u0,rfl,_⟩:=hx
  subst hy
  simp [Op.equalIn,run_underlying hT]
 ·obtain ⟨ms,hT⟩:=hT
  subst hx hy
  simp [Op.equalIn,run_underlying hT]
 ·obtain ⟨ms,hT⟩:=hT
  obtain ⟨b,o,vs,rfl,_⟩:=hx
  subst hy
  simp [Op.equalIn,run_underlying hT]
 ·obtain ⟨ms,hT⟩:=hT
  subst hx hy
  simp [Op.equalIn,run_underlying hT]
 ·obtain ⟨ms,hT⟩:=hT
  subst hx hy
  simp [Op.equalIn,run_underlying hT]
theorem b9x (h:Sim E N st a w val ow) {b:BinOp} {T kd:Nat} {x y:X} {yT:Nat} (ho:o.op= .binOp b T x.op y.op yT) (hd:∀ d,o.dst=some d->d < N) (hok:a3m P N (.bin b T kd x y yT)=true)
  (hr:(a0w G N o.dst (.bin b T kd x y yT)).run st=some (u,st')):Done E N P o a w st':=by
 simp only [a3m,Bool.and_eq_true] at hok
 obtain ⟨⟨hx,hy⟩,hok⟩:=hok
 simp only [a0w] at hr
 obtain ⟨⟨vx,ex⟩,st1,h1,h2⟩:=a0a hr
 obtain ⟨rfl,hRx,htx⟩:=a0i h hx h1
 obtain ⟨⟨vy,ey⟩,st2,h3,h4⟩:=a0a h2
 obtain ⟨rfl,hRy,hty⟩:=a0i h hy h3
 obtain ⟨v,st3,h5,h6⟩:=a0a h4
 obtain ⟨h7,rfl⟩:=a0r h5
 obtain ⟨d0,hd0,rfl⟩:=a0e h6
 simp only at h7 hRx hRy
 unfold a2e at h7
 split at h7
 ·exact b8m h ho hd0 (hd d0 hd0) hRx hRy h7
 ·rename_i hkd
  have hT:eqT P kd T:=by
   unfold eqT
   match kd,hok,hkd with
   | 0,_,hkd=>exact absurd rfl hkd
   | 1,hok,_=>
    simp only at hok ⊢
    split at hok
    ·assumption
    ·cases hok
   | 2,hok,_=>
    simp only [Bool.and_eq_true] at hok ⊢
    have:=hok.1
    split at this
    ·rename_i ms hm; exact ⟨ms,hm⟩
    ·cases this
   | 3,hok,_=>
    simp only at hok ⊢
    split at hok
    ·rename_i e he; exact ⟨e,he⟩
    ·cases hok
   | n+4,hok,_=>simp at hok
  have hcst:kd=2->isC x=true\/isC y=true:=fun hk=>by
   subst hk
   simp only [Bool.and_eq_true,Bool.or_eq_true] at hok
   exact hok.2
  have key:∀ r,c0d kd vx vy=some r->(eqGuard b T x.op y.op (a.eval x.op) (a.eval y.op)).run P w= .ok () w/\(Op.equal T (a.eval x.op) (a.eval y.op)).run P w= .ok r w:=by
   intro r he
   refine ⟨?_,c2d he hRx hRy hT 9999⟩
   unfold c0d at he
   unfold eqGuard
   split at he<;>simp only [Option.some.injEq,reduceCtorEq] at he<;>simp only [R] at hRx hRy
   ·rw [hRx,hRy]; cases b<;>rfl
   ·rw [hRx,hRy]; cases b<;>rfl
   ·obtain ⟨u0,hu,_⟩:=hRx
    rw [hu,hRy]; cases b<;>rfl
   ·rw [hRx,hRy]
    rcases hcst rfl with hc | hc
    ·cases x<;>simp [isC] at hc
     cases b<;>rfl
    ·cases y<;>simp [isC] at hc
     cases b<;>simp [X.op]
   ·obtain ⟨b0,o0,vs,hu,_⟩:=hRx
    rw [hu,hRy]; cases b<;>rfl
   ·rw [hRx,hRy]; cases b<;>rfl
   ·rw [hRx,hRy]; cases b<;>rfl
  have notlit:∀ r,c0d kd vx vy=some r->∀ op,(op= .eql\/op= .neq)->(binOp op T (a.eval x.op) (a.eval y.op)).run P w= .ok (.bool (if op= .eql then r else !r)) w:=by
   intro r he op hop
   have h8:=(key r he).2
   have hform:(∀ k n,a.eval x.op≠ .int k n)/\(∀ k n,a.eval x.op≠ .float k n)/\(∀ k n m,a.eval x.op≠ .complex k n m)/\(∀ s,a.eval x.op≠ .string s):=by
    unfold c0d at he
    split at he<;>simp only [Option.some.injEq,reduceCtorEq] at he<;>simp only [R] at hRx
    ·rw [hRx]; simp
    ·rw [hRx]; simp
    ·obtain ⟨u0,hu,_⟩:=hRx
     rw [hu]; simp
    ·rw [hRx]; simp
    ·obtain ⟨b0,o0,vs,hu,_⟩:=hRx
     rw [hu]; simp
    ·rw [hRx]; simp
    ·rw [hRx]; simp
   generalize a.eval x.op=X1 at *
   generalize a.eval y.op=Y1 at *
   rcases hop with rfl | rfl
   ·cases X1<;>simp only [binOp]<;>first
     | (simp only [Sem.run_bind,h8]; rfl)
     | exact absurd rfl (hform.1 _ _)
     | exact absurd rfl (hform.2.1 _ _)
     | exact absurd rfl (hform.2.2.1 _ _ _)
     | exact absurd rfl (hform.2.2.2 _)
   ·cases X1<;>simp only [binOp]<;>first
     | (simp only [Sem.run_bind,h8]; rfl)
     | exact absurd rfl (hform.1 _ _)
     | exact absurd rfl (hform.2.1 _ _)
     | exact absurd rfl (hform.2.2.1 _ _ _)
     | exact absurd rfl (hform.2.2.2 _)
  have fin:∀ r op,c0d kd vx vy=some r->b=op->(op= .eql\/op= .neq)->v= .lit (.bool (if op= .eql then r else !r))->Done E N P o a w (st3.put d0 v):=by
   intro r op he hb hop hv
   subst hb hv
   have hrun:(execOp a.eval o).run P w= .ok (.value (.bool (if b= .eql then r else !r))) w:=by
    simp only [execOp,ho]
    refine a3c ?_
    rw [Sem.run_bind,(key r he).1]
    exact notlit r he b hop
   exact Done.of_fin hd0 (hd d0 hd0) hrun h (by simp only [R]) rfl
  split at h7
  ·cases he:c0d kd vx vy with
   | none=>simp [he] at h7
   | some r=>simp only [he,Option.map_some,Option.some.injEq] at h7; exact fin r .eql he rfl (.inl rfl) (by simpa using h7.symm)
  ·cases he:c0d kd vx vy with
   | none=>simp [he] at h7
   | some r=>simp only [he,Option.map_some,Option.some.injEq] at h7; exact fin r .neq he rfl (.inr rfl) (by simpa using h7.symm)
  ·cases h7
end
open Classical
section
variable {E:Env} {N:Nat} {st:St} {a:Act} {w:World} {val:Nat->Value} {ow:Nat->Option Nat}
variable {P:Program} {o:Oper} {u:Unit} {st':St} {G:GG}
theorem a45:∀ (q:List Nat) {av:AV} {ks:List AV} {i:Nat} {k:AV},a2u av q=some ks->ks[i]? =some k->a0c av (q++[i])=some k
 | [],av,ks,i,k,hr,hk=>by
  simp only [a2u] at hr
  simp only [List.nil_append,a0c,hr,hk]
 | j::q,av,ks,i,k,hr,hk=>by
  simp only [a2u] at hr
  simp only [List.cons_append,a0c]
  cases h0:a0l av with
  | none=>simp [h0] at hr
  | some ks0=>
   simp only [h0] at hr ⊢
   cases hj:ks0[j]? with
   | none=>simp [hj] at hr
   | some kj=>
    simp only [hj] at hr ⊢
    exact a45 q hr hk
theorem a7s:∀ (q:List Nat) {v u:Value} {i b:Nat},a06 w v q=some u->a8f u=some b->a06 w v (q++[i])=(w.cell? ⟨b,i,none⟩)
 | [],v,u,i,b,hv,hb=>by
  simp only [a06,Option.some.injEq] at hv
  subst hv
  simp only [List.nil_append,a06,hb]
  cases w.cell? ⟨b,i,none⟩<;>rfl
 | j::q,v,u,i,b,hv,hb=>by
  simp only [a06] at hv
  simp only [List.cons_append,a06]
  cases h0:a8f v with
  | none=>simp [h0] at hv
  | some b0=>
   simp only [h0] at hv ⊢
   cases hj:w.cell? ⟨b0,j,none⟩ with
   | none=>simp [hj] at hv
   | some x=>
    simp only [hj] at hv ⊢
    exact a7s q hv hb
theorem Sim.cells (h:Sim E N st a w val ow) {t o1 b:Nat} {q:List Nat} {ks:List AV} (hrow:a2u (st.s t) q=some ks) (hlt:o1 < ks.length) (hb:blk w (val t) q=some b) (m:Nat) (hm:o1+m<=ks.length) :
  ∃ vs F,vs.length=m/\C1 vs/\RL w (Mo E w ow) ((ks.drop o1).take m) noQ F vs/\(∀ i v,vs[i]? =some v->w.cell? ⟨b,o1+i,none⟩=some v):=by
 have hne:ks≠[]:=by intro he; rw [he] at hlt; simp at hlt
 obtain ⟨b',cur,T,fz,e1,e2,e3,e4,e5,e5c,Fk,G,e6,e7,e8,_⟩:=b2f q (h.slots t) hrow hne
 rw [hb] at e1; injection e1 with e1; subst e1
 have hl:=a0m e8
 have e:ks=ks.take o1++ks.drop o1:=(List.take_append_drop _ _).symm
 rw [e] at e8
 obtain ⟨v1,v2,hvs,F1,F2,_,_,_,r1,r2⟩:=a16 e8
 have e':ks.drop o1=(ks.drop o1).take m++(ks.drop o1).drop m:=(List.take_append_drop _ _).symm
 rw [e'] at r2
 obtain ⟨v3,v4,hvs2,F3,F4,_,_,_,r3,r4⟩:=a16 r2
 have l1:v1.length=o1:=by rw [a0m r1,List.length_take]; omega
 have l3:v3.length=m:=by rw [a0m r3,List.length_take,List.length_drop]; omega
 rw [<-e] at hvs
 refine ⟨v3,F3,l3,fun x hx=>e5c x (by rw [hvs,hvs2]; simp [hx]),r3,fun i v hv=> ?_⟩
 rw [a0z e3]
 refine a1i (m:=ks.length) ?_
 rw [hvs,hvs2,List.getElem?_append_right (by omega),List.getElem?_append_left (by rw [l1]; have:=(List.getElem?_eq_some_iff.1 hv).1; omega)]
 rw [l1,show o1+i - o1=i by omega]
 exact hv
theorem a9a (P:Program) (b o1:Nat) (vs:List Value) (hc:∀ i v,vs[i]? =some v->w.cell? ⟨b,o1+i,none⟩=some v):(loadCells ⟨b,o1,none⟩ vs.length).run P w= .ok vs.toArray w:=
 run_loadCells_list (P:=P) w ⟨b,o1,none⟩ vs (fun i v hv=>by rw [a1u]; exact hc i v hv)
theorem e76 {α:Type} {l:List α} {i:Nat} {x:α} (h:l[i]? =some x):(l.drop i).take 1=[x]:=by
 have hlt:i < l.length:=(List.getElem?_eq_some_iff.1 h).1
 have hx:l[i]=x:=(List.getElem?_eq_some_iff.1 h).2
 rw [List.drop_eq_getElem_cons hlt,hx]; rfl
theorem b0v {T:TypeId} {x:X} (ho:o.op= .load T x.op) (ha:b2g P T=some false) {b o1:Nat} (hp:a.eval x.op= .pointer (some ⟨b,o1,none⟩)) {v:Value} (hc:w.cell? ⟨b,o1,none⟩=some v):(execOp a.eval o).run P w= .ok (.value v) w:=by
 simp only [execOp,ho,hp]
 refine a3c ?_
 unfold b2g at ha
 split at ha<;>simp only [Option.some.injEq,reduceCtorEq] at ha
 rename_i td hn1 hn2 hu
 have hagg:(isAgg T).run P w= .ok false w:=by
  unfold isAgg
  rw [Sem.run_bind,run_underlying hu]
  cases td<;>first
   | rfl
   | exact (hn1 _ rfl).elim
   | exact (hn2 _ _ rfl).elim
   | exact (hn1 _ _ rfl).elim
   | exact (hn2 _ rfl).elim
 simp only [Instr.loadAt,Instr.sureAddr,loadVar,Sem.run_bind,Sem.run_pure,Result.andThen_ok,hagg]
 simp [load,Sem.run,hc]
theorem a8x {T sz:Nat} {x:X} (ho:o.op= .load T x.op) (ha:b2g P T=some true) (hs:a71 P T sz=true) {b o1:Nat} (hp:a.eval x.op= .pointer (some ⟨b,o1,none⟩)) {vs:List Value} (hl:vs.length=sz) (hc:∀ i v,vs[i]? =some v->w.cell? ⟨b,o1+i,none⟩=some v) :
  (execOp a.eval o).run P w= .ok (.value (.agg vs.toArray)) w:=by
 obtain ⟨i,hi,hsz⟩:=a2m hs
 simp only [execOp,ho,hp]
 refine a3c ?_
 have hagg:(isAgg T).run P w= .ok true w:=by
  unfold b2g at ha
  unfold isAgg
  split at ha
  ·rename_i fs hu; rw [Sem.run_bind,run_underlying hu]; rfl
  ·rename_i n e hu; rw [Sem.run_bind,run_underlying hu]; rfl
  ·simp at ha
  ·cases ha
 have hsize:(sizeOf T).run P w= .ok sz w:=by simp [sizeOf,typeInfo,hi,hsz]
 have hlc:=a9a P b o1 vs hc
 rw [hl] at hlc
 simp only [Instr.loadAt,Instr.sureAddr,loadVar,Sem.run_bind,Sem.run_pure,Result.andThen_ok,hagg,hsize,hlc,if_true]
theorem b7b:∀ ks:List AV,a0k (a1b ks)=true:=by
 have h:(∀ k:AV,a0j (frz k)=true)/\True:=⟨fun k=>by
  have key:∀ k:AV,a0j (frz k)=true:=by
   intro k
   exact AV.rec (motive_1:=fun k=>a0j (frz k)=true) (motive_2:=fun ks=>a0k (a1b ks)=true)
    rfl (fun _=>rfl) (fun _ _ _=>rfl) (fun _ _ _=>rfl) (fun _ _ _ _=>rfl) (fun _ _=>rfl) (fun ks h=>by simp only [frz,a0j]; exact h) (fun ks h=>by simp only [frz,a0j]; exact h)
    (fun T k h=>by simp only [frz,a0j]; exact h) (fun _ _ _ _ _=>rfl) (fun _ _ _ _=>rfl) (fun _ _ _ _ _=>rfl) (fun _ _ _=>rfl) (fun _ _=>rfl) rfl (fun k ks h1 h2=>by simp only [a1b,a0k,Bool.and_eq_true]; exact ⟨h1,h2⟩) k
  exact key k,trivial⟩
 intro ks
 induction ks with
 | nil=>rfl
 | cons k ks ih=>simp only [a1b,a0k,Bool.and_eq_true]; exact ⟨h.1 k,ih⟩
theorem Sim.freezeCells (h:Sim E N st a w val ow) {t o1 m:Nat} {q:List Nat} {ks:List AV} (hrow:a2u (st.s t) q=some ks) (hlt:o1 < ks.length) (hm:o1+m<=ks.length) :
  ∃ ow',Sim E N (st.set t (setRow (st.s t) q (a0o ks o1 (a1b ((ks.drop o1).take m))))) a w val ow'/\∀ b vs,blk w (val t) q=some b->vs.length=m->(∀ i v,vs[i]? =some v->w.cell? ⟨b,o1+i,none⟩=some v)->RL w (Mo E w ow') (a1b ((ks.drop o1).take m)) noQ noB vs:=by
 have hne:ks≠[]:=by intro he; rw [he] at hlt; simp at hlt
 obtain ⟨b',cur,T,fz,e1,e2,e3,e4,e5,e5c,Fk,G,e6,e7,e8,fill⟩:=b2f q (h.slots t) hrow hne
 have e:ks=ks.take o1++ks.drop o1:=(List.take_append_drop _ _).symm
 have e8':=e8
 rw [e] at e8'
 obtain ⟨v1,v2,hvs,F1,F2,g1,g2,gd,r1,r2⟩:=a16 e8'
 have e':ks.drop o1=(ks.drop o1).take m++(ks.drop o1).drop m:=(List.take_append_drop _ _).symm
 rw [e'] at r2
 obtain ⟨v3,v4,hvs2,F3,F4,g3,g4,gd2,r3,r4⟩:=a16 r2
 have l1:v1.length=o1:=by rw [a0m r1,List.length_take]; omega
 have l3:v3.length=m:=by rw [a0m r3,List.length_take,List.length_drop]; omega
 rw [<-e] at hvs
 have hlf:(a1b ((ks.drop o1).take m)).length=m:=by rw [a10,List.length_take,List.length_drop]; omega
 let ow':Nat->Option Nat:=fun b=>if F3 b then none else ow b
 have hF3:∀ x,F3 x->ow x=some t:=fun x hx=>(e6 x (g2 x (g3 x hx))).1
 have hMo:∀ x,Mo E w ow x->Mo E w ow' x:=fun x hx=>⟨by
  by_cases h1:F3 x
  ·simp [ow',h1]
  ·simp [ow',h1,hx.1],hx.2⟩
 have hfr:RL w (Mo E w ow') (a1b ((ks.drop o1).take m)) noQ noB v3:=b0t hMo _ (fun x hx=>by
  have:=h.owned (hF3 x hx)
  exact ⟨by simp [ow',hx],this.1,.inr this.2⟩) r3
 refine ⟨ow',h.ghost (fun s=>s=t) (fun _ _=>rfl) (fun b s hb=> ?_) (fun s hs=>⟨by simp [hs],rfl,fun b hb=> ?_⟩) (fun s q'=> ?_) (fun hq hM s hs=> ?_),fun b vs hb hvl hvc=> ?_⟩
 ·by_cases h1:F3 b
  ·simp [ow',h1] at hb
  ·simp [ow',h1] at hb; exact ⟨s,hb⟩
 ·have:¬ F3 b:=fun hf=>by have:=hF3 b hf; rw [hb] at this; injection this with e; exact hs e
  simp [ow',this,hb]
 ·by_cases hs:s=t
  ·subst hs
   refine Stab.like (Nat.le_refl _) (fun k' h1 h2=> ?_) rfl
   simp only [St.set_s,if_true] at h1
   exact (a6i q hrow (by rw [hlf]; exact hm) h1 h2 (.inl (b7b _))).1
  ·exact Stab.same rfl (by simp [hs]) rfl
 ·subst hs
  simp only [St.set_s,if_true]
  have hsp:a0o (cur.toList.take ks.length) o1 v3=cur.toList.take ks.length:=by
   rw [hvs,hvs2]
   unfold a0o
   rw [<-l1,List.take_left,<-List.drop_drop,List.drop_left,List.drop_left,List.append_assoc]
  have hrl:RL w (Mo E w ow') (a0o ks o1 (a1b ((ks.drop o1).take m))) noQ (fun x=>F1 x\/F4 x) (cur.toList.take ks.length):=by
   have hks:a0o ks o1 (a1b ((ks.drop o1).take m))=ks.take o1++(a1b ((ks.drop o1).take m))++(ks.drop o1).drop m:=by
    unfold a0o; rw [hlf,List.drop_drop]
   rw [hks,hvs,hvs2,<-List.append_assoc]
   have k1:=a1a hMo (fun _ _=>rfl) _ (fun _ _ h=>h) (fun _ h=>h) (fun _ _=>rfl) r1
   have k4:=a1a hMo (fun _ _=>rfl) _ (fun _ _ h=>h) (fun _ h=>h) (fun _ _=>rfl) r4
   exact a1r (by rintro x ((hx | hx) | hx)
                 ·exact .inl hx
                 ·exact hx.elim
                 ·exact .inr hx) (a1e (a1e k1 hfr (fun _ _ h=>h)) k4 (by
    rintro x (hx | hx) hx2
    ·exact gd x hx (g4 x hx2)
    ·exact hx.elim))
  refine a1l ?_ (fill w (Mo E w ow') (QS w _ val) cur _ (fun x=>F1 x\/F4 x) hM (fun _ _=>rfl) (fun _ _=>rfl) e3 rfl (by rw [a3k _ _ _ (by rw [hlf]; exact hm)]) (by
   rintro x (hx | hx)
   ·exact ⟨(e6 x (g1 x hx)).2.1,(e6 x (g1 x hx)).2.2⟩
   ·exact ⟨(e6 x (g2 x (g4 x hx))).2.1,(e6 x (g2 x (g4 x hx))).2.2⟩) e5c hrl)
  rintro x ((hx | hx) | hx | hx)
  ·have h1:¬ F3 x:=fun hf=>gd x hx (g3 x hf)
   simp [ow',h1,(e6 x (g1 x hx)).1]
  ·have h1:¬ F3 x:=fun hf=>gd2 x hf hx
   simp [ow',h1,(e6 x (g2 x (g4 x hx))).1]
  ·have h1:¬ F3 x:=fun hf=>(e6 x (g2 x (g3 x hf))).2.2 hx
   simp [ow',h1,(e7 x hx).1]
  ·subst hx
   have h1:¬ F3 x:=fun hf=>(e6 x (g2 x (g3 x hf))).2.1 rfl
   simp [ow',h1,e2]
 ·rw [e1] at hb; injection hb with hb; subst hb
  have:vs=v3:=by
   apply List.ext_getElem?
   intro i
   by_cases hi:i < m
   ·cases hv:vs[i]? with
    | none=>simp at hv; omega
    | some v=>
     have h1:=hvc i v hv
     cases hv3:v3[i]? with
     | none=>simp at hv3; omega
     | some v'=>
      rw [a0z e3] at h1
      have h2:(cur.toList.take ks.length)[o1+i]? =some v':=by
       rw [hvs,hvs2,List.getElem?_append_right (by omega),List.getElem?_append_left (by omega),l1,show o1+i - o1=i by omega]
       exact hv3
      rw [a1i h2] at h1
      rw [h1]
   ·rw [List.getElem?_eq_none (by omega),List.getElem?_eq_none (by omega)]
  rw [this]
  exact hfr
end
open Classical
section
variable {E:Env} {N:Nat} {st:St} {a:Act} {w:World} {val:Nat->Value} {ow:Nat->Option Nat}
variable {P:Program} {o:Oper} {u:Unit} {st':St} {G:GG}
theorem b7v {M:BS} {Q:QR} {F:BS} {k:AV} {vs:List Value} (h:RL w M [k] Q F vs):∃ v,vs=[v]/\R w M k Q F v:=by
 simp only [RL] at h
 obtain ⟨v,vs',rfl,F1,F2,h1,_,_,hr,rfl⟩:=h
 exact ⟨v,rfl,a1l h1 hr⟩
theorem b65 (h:Sim E N st a w val ow) {T:Nat} {s:Option Nat} {x:X} (ho:o.op= .load T x.op) (hd:∀ d,o.dst=some d->d < N) (hok:a3m P N (.load T s x)=true)
  (hr:(b46 o.dst s x).run st=some (u,st')):Done E N P o a w st':=by
 simp only [a3m,Bool.and_eq_true] at hok
 obtain ⟨hx,hok⟩:=hok
 unfold b46 at hr
 obtain ⟨⟨t,q,o1,v1,e1,ks⟩,st1,h1,h2⟩:=a0a hr
 obtain ⟨rfl,rfl,rfl,hrow,hlt,u1,b,g1,g2,g3,g4⟩:=a3u h hx h1
 cases s with
 | none=>
  simp only at h2 hok
  have hag:b2g P T=some false:=by simpa using hok
  obtain ⟨k,st2,h3,h4⟩:=a0a h2
  obtain ⟨hk,rfl⟩:=a0r h3
  obtain ⟨vs,F,c1,c2,c3,c4⟩:=h.cells hrow hlt g3 1 (by omega)
  rw [e76 hk] at c3
  obtain ⟨v,rfl,hv⟩:=b7v c3
  have hcell:=c4 0 v rfl
  rw [Nat.add_zero] at hcell
  have hrun:=b0v (P:=P) ho hag g4 hcell
  have plain:(do a0f (a0j k); setD o.dst k:Ev Unit).run st2=some (u,st')->Done E N P o a w st':=fun hs=>by
   obtain ⟨_,st3,h5,h6⟩:=a0a hs
   obtain ⟨hn,rfl⟩:=a0b h5
   obtain ⟨d0,hd0,rfl⟩:=a0e h6
   exact Done.of_fin hd0 (hd d0 hd0) hrun h (a0t (fun _ h=>h) (fun _ _=>rfl) _ (fun _ _ h=>h.elim) (fun _ h=>h) (fun _ _=>rfl) (a1d k hn hv)) (a5j hn)
  cases k with
  | own sz n ks'=>
   simp only [a8w] at h4
   obtain ⟨d0,hd0,rfl⟩:=a0e h4
   refine Done.of_fin hd0 (hd d0 hd0) hrun h ?_ rfl
   simp only [R,QS]
   refine ⟨Nat.le_refl _,fun _ sz' n0 ks2 hk2 _=> ?_,fun _ keys vals hk2=>by rw [a45 q hrow hk] at hk2; injection hk2 with hk2; cases hk2⟩
   rw [a45 q hrow hk] at hk2
   injection hk2 with hk2
   injection hk2 with e1 e2 e3
   subst e1 e2 e3
   have hva:a06 w (val t) (q++[o1])=some v:=by rw [a7s q g1 g2]; exact hcell
   have hform:∃ a0 c0,v= .slice a0 n c0:=by
    simp only [R] at hv
    rcases hv with ⟨h0,_,a0,hv⟩ | ⟨b,c,cur,T,fz,hv,_⟩
    ·exact ⟨a0,0,by rw [h0]; exact hv⟩
    ·exact ⟨_,c,hv⟩
   obtain ⟨a0,c0,hform⟩:=hform
   refine ⟨a0,c0,by rw [hva,hform],?_⟩
   rw [hform,Nat.zero_mul,a00]
   simp
  | mp ks2 vs2=>
   simp only [a8w] at h4
   obtain ⟨d0,hd0,rfl⟩:=a0e h4
   refine Done.of_fin hd0 (hd d0 hd0) hrun h ?_ rfl
   simp only [R,QS]
   have hva:a06 w (val t) (q++[o1])=some v:=by rw [a7s q g1 g2]; exact hcell
   exact ⟨Nat.le_refl _,fun _ sz' n0 ks3 hk2 _=>(by rw [a45 q hrow hk] at hk2; injection hk2 with hk2; cases hk2),fun _ _ _ _=>hva⟩
  | loan ks2=>exact plain h4
  | dead=>exact plain h4
  | lit v0=>exact plain h4
  | sl n ks=>exact plain h4
  | ip ks off=>exact plain h4
  | fn f fs cs=>exact plain h4
  | ref t q o e=>exact plain h4
  | bor t q lo n e=>exact plain h4
  | agg ks=>exact plain h4
  | tup ks=>exact plain h4
  | ifc T k=>exact plain h4
  | var ks=>exact plain h4
 | some sz=>
  simp only [Bool.and_eq_true] at h2 hok
  have hag:b2g P T=some true:=by simpa using hok.1
  obtain ⟨_,st2,h3,h4⟩:=a0a h2
  obtain ⟨hg,rfl⟩:=a0b h3
  have hm:o1+sz<=ks.length:=by simpa using hg
  obtain ⟨vs,F,c1,c2,c3,c4⟩:=h.cells hrow hlt g3 sz hm
  have hrun:=a8x (P:=P) ho hag hok.2 g4 c1 c4
  split at h4
  ·rename_i hn
   obtain ⟨d0,hd0,rfl⟩:=a0e h4
   refine Done.of_fin hd0 (hd d0 hd0) hrun h ?_ rfl
   simp only [R]
   exact ⟨_,rfl,by simpa using c2,by simpa using a8q _ hn c3⟩
  ·obtain ⟨_,st3,h5,h6⟩:=a0a h4
   have:=a1c h5
   subst this
   obtain ⟨d0,hd0,rfl⟩:=a0e h6
   obtain ⟨ow',hf,hfc⟩:=h.freezeCells hrow hlt hm
   refine Done.of_fin hd0 (hd d0 hd0) hrun hf ?_ rfl
   simp only [R]
   exact ⟨_,rfl,by simpa using c2,by simpa using hfc b vs g3 c1 c4⟩
theorem b84 (h:Sim E N st a w val ow) (hG:E.G=G) {T:Nat} {s:Option Nat} {x:X} (ho:o.op= .load T x.op) (hd:∀ d,o.dst=some d->d < N) (hok:a3m P N (.load T s x)=true)
  (hr:(a0w G N o.dst (.load T s x)).run st=some (u,st')):Done E N P o a w st':=by
 have hok':=hok
 simp only [a3m,Bool.and_eq_true] at hok'
 obtain ⟨hx,hok'⟩:=hok'
 simp only [a0w] at hr
 obtain ⟨⟨v,e⟩,st1,h1,h2⟩:=a0a hr
 obtain ⟨rfl,hR,ht⟩:=a0i h hx h1
 simp only at h2 hR
 split at h2
 ·rename_i g
  obtain ⟨v0,st2,h3,h4⟩:=a0a h2
  obtain ⟨hg,rfl⟩:=a0r h3
  obtain ⟨d0,hd0,rfl⟩:=a0e h4
  simp only [R] at hR
  have hag:b2g P T=some false:=by simpa using hok'
  have hrun:=b0v (P:=P) ho hag hR (h.glob g v0 (.inl (by rw [hG]; exact hg))).cell
  exact Done.of_fin hd0 (hd d0 hd0) hrun h (by simp only [R]) rfl
 ·rename_i ks off
  obtain ⟨k,st2,h3,h4⟩:=a0a h2
  obtain ⟨hk,rfl⟩:=a0r h3
  obtain ⟨_,st3,h5,h6⟩:=a0a h4
  obtain ⟨hn,rfl⟩:=a0b h5
  obtain ⟨d0,hd0,rfl⟩:=a0e h6
  simp only [R] at hR
  obtain ⟨b,o2,vs,hv,hb,hc,hr1,hcell⟩:=hR
  have hag:b2g P T=some false:=by simpa using hok'
  obtain ⟨u1,hu,F1,G1,_,_,_,hku,_⟩:=a5g hr1 hk
  have hrun:=b0v (P:=P) ho hag hv (hcell off u1 hu)
  exact Done.of_fin hd0 (hd d0 hd0) hrun h (a0t (fun _ h=>h) (fun _ _=>rfl) _ (fun _ _ h=>h.elim) (fun _ h=>h) (fun _ _=>rfl) (a1d k hn hku)) (a5j hn)
 ·rename_i ks off sz
  obtain ⟨_,st3,h5,h6⟩:=a0a h2
  obtain ⟨hg,rfl⟩:=a0b h5
  obtain ⟨d0,hd0,rfl⟩:=a0e h6
  simp only [Bool.and_eq_true,decide_eq_true_eq] at hg hok'
  simp only [R] at hR
  obtain ⟨b,o2,vs,hv,hb,hc,hr1,hcell⟩:=hR
  have hag:b2g P T=some true:=by simpa using hok'.1
  have hl:=a0m hr1
  have e1:ks=ks.take off++ks.drop off:=(List.take_append_drop _ _).symm
  rw [e1] at hr1
  obtain ⟨v1,v2,hvs,F1,F2,_,_,_,r1,r2⟩:=a16 hr1
  have e2:ks.drop off=(ks.drop off).take sz++(ks.drop off).drop sz:=(List.take_append_drop _ _).symm
  rw [e2] at r2
  obtain ⟨v3,v4,hvs2,F3,F4,_,_,_,r3,r4⟩:=a16 r2
  have l1:v1.length=off:=by rw [a0m r1,List.length_take]; omega
  have l3:v3.length=sz:=by rw [a0m r3,List.length_take,List.length_drop]; omega
  have hrun:=a8x (P:=P) (vs:=v3) ho hag hok'.2 hv l3 (fun i u hu=>by
   have h7:=hcell (off+i) u (by
    rw [hvs,hvs2,List.getElem?_append_right (by omega),List.getElem?_append_left (by have:=(List.getElem?_eq_some_iff.1 hu).1; omega),l1,show off+i - off=i by omega]
    exact hu)
   rw [Nat.add_assoc]; exact h7)
  refine Done.of_fin hd0 (hd d0 hd0) hrun h ?_ rfl
  simp only [R]
  exact ⟨_,rfl,fun u hu=>hc u (by rw [hvs,hvs2]; simp at hu; simp [hu]),by simpa using a8q _ hg.2 r3⟩
 ·exact b65 h ho hd hok h2
end
open Classical
section
variable {E:Env} {N:Nat} {st:St} {a:Act} {w:World} {val:Nat->Value} {ow:Nat->Option Nat}
variable {P:Program} {o:Oper} {u:Unit} {st':St} {G:GG}
theorem Sim.act_undef (h:Sim E N st a w val ow) (hd:o.dst=none):Sim E N st (a.put o.dst undef) w val ow:=by rw [hd]; exact h
theorem b8z {t o m:Nat} {q:List Nat} {st st':St} {u:Unit} (h:(b8y t q o m).run st=some (u,st')):st'=st.kill t q o m:=by
 rw [b5n] at h; simp only [Option.some.injEq,Prod.mk.injEq] at h; exact h.2.symm
theorem b1i (h:Sim E N st a w val ow) {T s:Nat} {x y:X} (ho:o.op= .store T x.op y.op) (hok:a3m P N (.store T s x y)=true)
  (hr:(a0w G N o.dst (.store T s x y)).run st=some (u,st')):Done E N P o a w st':=by
 simp only [a3m,Bool.and_eq_true] at hok
 obtain ⟨⟨hx,hy⟩,hsz⟩:=hok
 obtain ⟨inf,hinf,hsize⟩:=a2m hsz
 simp only [a0w] at hr
 obtain ⟨_,st0,h0,h0'⟩:=a0a hr
 obtain ⟨hdn,rfl⟩:=a0b h0
 have hdn':o.dst=none:=by cases hq:o.dst<;>simp_all
 obtain ⟨_,st1,h1,h2⟩:=a0a h0'
 obtain ⟨val1,ow1,cs,hs1,hk1,hsN,hvN⟩:=a8d h hy rfl h1
 obtain ⟨⟨t,q,o1,v1,e1,ks⟩,st2,h3,h4⟩:=a0a h2
 obtain ⟨rfl,rfl,rfl,hrow,hlt,u1,b,g1,g2,g3,g4⟩:=a3u hs1 hx h3
 obtain ⟨cs',st3,h5,h6⟩:=a0a h4
 obtain ⟨hcs,rfl⟩:=a5w h5
 rw [hsN] at hcs; injection hcs with hcs; subst hcs
 obtain ⟨_,st4,h7,h8⟩:=a0a h6
 obtain ⟨hg,rfl⟩:=a0b h7
 simp only [Bool.and_eq_true,decide_eq_true_eq] at hg
 obtain ⟨⟨⟨hg1,hg2⟩,hg3⟩,hg4⟩:=hg
 obtain ⟨_,st5,h9,h10⟩:=a0a h8
 have:=a0g h9
 subst this
 have hc:∃ kl:Bool,(kl=true\/a0k cs=true)/\st'=⟨fun u=>if u=t then setRow (st4.s t) q (a0o ks o1 cs) else if u=N then .dead else a0x (if kl then a9v t q o1 cs.length else fun _ _=>false) (st4.s u),st4.ep⟩:=by
  simp only at h10
  split at h10
  ·rename_i hn
   refine ⟨false,.inr hn,?_⟩
   have:=a1c h10
   subst this
   rw [a0y _ N (by simp [a0l])]
   unfold St.set
   congr 1
   funext u
   simp [a2z]
  ·refine ⟨true,.inl rfl,?_⟩
   obtain ⟨_,st6,h11,h12⟩:=a0a h10
   have:=b8z h11
   subst this
   have:=a1c h12
   subst this
   rw [a0y _ N (by simp [a0l])]
   unfold St.set St.kill
   congr 1
   funext u
   by_cases hu:u=t
   ·simp [hu]
   ·by_cases huN:u=N
    ·subst huN; simp [hu,a0x]
    ·simp [hu,huN,hg1]
 obtain ⟨kl,hkl,rfl⟩:=hc
 obtain ⟨b',cur,T',fz,arr,f1,f2,f3,f4,f5,f6,f7,fill⟩:=hs1.store (t:=t) (j:=N) (o:=o1) (Nat.le_refl N) (by omega) hrow hsN (by omega) (by omega) kl hkl
 rw [g3] at f1; injection f1 with f1; subst f1
 rw [hvN] at f4
 injection f4 with f4
 have hwl:b < w.heap.size:=(Array.getElem?_eq_some_iff.1 f2).1
 have hrunC:=a3w P b o1 T' fz arr.toList 0 cur w f2 f3 (by simpa using f7) f5
 have hlen:(a.eval y.op).cells.size=s:=by rw [f4,f6,hg1]
 have hrun:(execOp a.eval o).run P w= .ok .skip (w.setRow b (a0o cur.toList o1 arr.toList).toArray):=by
  have hsz':(sizeOf T).run P w= .ok s w:=by simp [sizeOf,typeInfo,hinf,hsize]
  have hsv:(storeVar T ⟨b,o1,none⟩ (a.eval y.op)).run P w= .ok () (w.setRow b (a0o cur.toList o1 arr.toList).toArray):=by
   unfold storeVar
   simp only [Sem.run_bind,hsz',Result.andThen_ok,hlen,ne_eq,not_true_eq_false,if_false,Sem.run_pure]
   rw [f4]
   simpa [a0o] using hrunC
  have hin:(Instr.storeAt T (a.eval x.op) (a.eval y.op)).run P w= .ok () (w.setRow b (a0o cur.toList o1 arr.toList).toArray):=by
   rw [g4]
   simp only [Instr.storeAt,Instr.sureAddr,Sem.run_bind,Sem.run_pure,Result.andThen_ok]
   exact hsv
  simp only [execOp,ho]
  rw [Sem.run_bind,hin]; rfl
 obtain ⟨ow',hfin⟩:=fill (w.setRow b (a0o cur.toList o1 arr.toList).toArray) (by
  apply Array.ext_getElem?
  intro i
  by_cases hi:i=b
  ·subst hi
   rw [setRow_heap w i cur _ T' fz f2]
   simp [hwl]
  ·rw [setRow_other w b i _ hi,Array.getElem?_setIfInBounds_ne (Ne.symm hi)]) rfl rfl rfl
 exact ⟨_,_,_,ow',hrun,.inr ⟨rfl,hfin.act_undef hdn'⟩⟩
theorem c1l (h:Sim E N st a w val ow) {T s:Nat} {x y:X} (ho:o.op= .store T x.op y.op) (hok:a3m P N (.stf T s x y)=true)
  (hr:(a0w G N o.dst (.stf T s x y)).run st=some (u,st')):Done E N P o a w st':=by
 cases y with
 | t n=>exact b1i (G:=G) (h.freeze n) ho hok hr
 | _=>exact absurd hr (by simp [a0w,a99,Ev.run_bind,Ev.run])
end
open Classical
section
variable {E:Env} {N:Nat} {st:St} {a:Act} {w:World} {val:Nat->Value} {ow:Nat->Option Nat}
variable {P:Program} {o:Oper} {u:Unit} {st':St} {G:GG}
theorem c3l (h:Sim E N st a w val ow) {b:UnOp} {T:Nat} {x:X} (ho:o.op= .unOp b T x.op) (hd:∀ d,o.dst=some d->d < N) (hx:okX N x=true)
  (hr:(a0w G N o.dst (.un b T x)).run st=some (u,st')):Done E N P o a w st':=by
 simp only [a0w] at hr
 obtain ⟨v,st1,h1,h2⟩:=a0a hr
 obtain ⟨rfl,hv⟩:=a18 h hx h1
 obtain ⟨r,st2,h3,h4⟩:=a0a h2
 obtain ⟨hp,rfl⟩:=a0r h3
 obtain ⟨d0,hd0,rfl⟩:=a0e h4
 have hrun:(execOp a.eval o).run P w= .ok (.value r) w:=by
  simp only [execOp,ho,hv]
  exact a3c (a4t hp P w)
 exact Done.of_fin (av:= .lit r) hd0 (hd d0 hd0) hrun h (by simp only [R]) rfl
theorem b0m (h:Sim E N st a w val ow) {x:X} (hx:okX N x=true) {t lo n:Nat} {q:List Nat} {st':St} (hr:(a5x x).run st=some ((t,q,lo,n),st')) {sz n0:Nat} {ks:List AV} (hk:a0c (st.s t) q=some (.own sz n0 ks)) (hlo:lo+n<=n0) :
  ∃ a0 c0,a06 w (val t) q=some (.slice a0 n0 c0)/\n0<=c0/\(0 < n->∃ b,a0=some ⟨b,0,none⟩)/\a.eval x.op= .slice (if c0=lo then a0 else a0.map (·.add (lo*sz))) n (c0 - lo):=by
 obtain ⟨_,hb⟩:=a3q h hx hr
 obtain ⟨a0,c0,h1,h2⟩:=hb sz n0 ks hk hlo
 obtain ⟨u,hu,Fk,G,_,_,_,hr1,_⟩:=a32 q (h.slots t) hk
 rw [h1] at hu; injection hu with hu; subst hu
 simp only [R] at hr1
 rcases hr1 with ⟨hn,_,a1,hv⟩ | ⟨b,c,cur,T,fz,hv,_,_,_,hnc,_⟩
 ·injection hv with e1 e2 e3
  exact ⟨a0,c0,h1,by omega,fun hp=>by omega,h2⟩
 ·injection hv with e1 e2 e3
  exact ⟨a0,c0,h1,by omega,fun _=>⟨b,e1⟩,h2⟩
theorem c0u (h:Sim E N st a w val ow) {T:Nat} {s:Bool} {x:X} (ho:o.op= .call { callee:= .builtin .len,args:=#[x.op],argTypes:=#[T] }) (hd:∀ d,o.dst=some d->d < N) (hok:a3m P N (.len T s x)=true)
  (hr:(a0w G N o.dst (.len T s x)).run st=some (u,st')):Done E N P o a w st':=by
 simp only [a3m,Bool.and_eq_true] at hok
 obtain ⟨hx,hT⟩:=hok
 have hrunS:∀ ad n c,(∃ e,P.underlying T=some (.slice e))->a.eval x.op= .slice ad n c->(execOp a.eval o).run P w= .ok (.value (.int .i64 n)) w:=fun ad n c ⟨e,he⟩ hv=>by
  simp only [execOp,ho,resolve,invoke,builtin,List.map_toArray,List.map_cons,List.map_nil,hv,Sem.run_bind,Sem.run_pure,Result.andThen_ok]
  simp [Builtin.len_,run_underlying he,goInt]
 cases s with
 | true=>
  simp only [a0w] at hr
  obtain ⟨v,st1,h1,h2⟩:=a0a hr
  obtain ⟨rfl,hv⟩:=a18 h hx h1
  cases v<;>simp only [Ev.run_fail,reduceCtorEq] at h2
  rename_i sx
  obtain ⟨d0,hd0,rfl⟩:=a0e h2
  have hu:P.underlying T=some .string:=by
   split at hT
   ·assumption
   ·rename_i e hf _; cases hf
   ·cases hT
  have hrun:(execOp a.eval o).run P w= .ok (.value (.int .i64 sx.size)) w:=by
   simp only [execOp,ho,resolve,invoke,builtin,List.map_toArray,List.map_cons,List.map_nil,hv,Sem.run_bind,Sem.run_pure,Result.andThen_ok]
   simp [Builtin.len_,run_underlying hu,goInt]
  exact Done.of_fin (av:= .lit (.int .i64 sx.size)) hd0 (hd d0 hd0) hrun h (by simp only [R]) rfl
 | false=>
  have hu:∃ e,P.underlying T=some (.slice e):=by
   split at hT
   ·rename_i hf _; cases hf
   ·rename_i e _ he; exact ⟨e,he⟩
   ·cases hT
  simp only [a0w] at hr
  obtain ⟨⟨v,e⟩,st1,h1,h2⟩:=a0a hr
  obtain ⟨rfl,hR,ht⟩:=a0i h hx h1
  simp only at h2 hR
  split at h2
  ·rename_i n ks
   obtain ⟨d0,hd0,rfl⟩:=a0e h2
   simp only [R] at hR
   obtain ⟨ad,c,hv,_⟩:=hR
   exact Done.of_fin (av:= .lit (.int .i64 n)) hd0 (hd d0 hd0) (hrunS _ _ _ hu hv) h (by simp only [R]) rfl
  ·rename_i sz n ks
   obtain ⟨d0,hd0,rfl⟩:=a0e h2
   have hv:∃ ad c,a.eval x.op= .slice ad n c:=by
    simp only [R] at hR
    rcases hR with ⟨h0,_,a0,hv⟩ | ⟨b,c,cur,T,fz,hv,_⟩
    ·exact ⟨a0,0,by rw [h0]; exact hv⟩
    ·exact ⟨_,c,hv⟩
   obtain ⟨ad,c,hv⟩:=hv
   exact Done.of_fin (av:= .lit (.int .i64 n)) hd0 (hd d0 hd0) (hrunS _ _ _ hu hv) h (by simp only [R]) rfl
  ·obtain ⟨⟨t,q,lo,n⟩,st2,h3,h4⟩:=a0a h2
   obtain ⟨rfl,_⟩:=a3q h hx h3
   unfold c06 at h4
   obtain ⟨k,st3,h5,h6⟩:=a0a h4
   obtain ⟨r,st4,h7,h8⟩:=a0a h5
   obtain ⟨rfl,rfl⟩:=a09 h7
   obtain ⟨hk,rfl⟩:=a0r h8
   simp only at hk h6
   split at h6
   ·rename_i sz n0 ks
    obtain ⟨_,st5,h9,h10⟩:=a0a h6
    obtain ⟨hg,rfl⟩:=a0b h9
    obtain ⟨d0,hd0,rfl⟩:=a0e h10
    obtain ⟨a0,c0,_,_,_,hv⟩:=b0m h hx h3 hk (by simpa using hg)
    exact Done.of_fin (av:= .lit (.int .i64 n)) hd0 (hd d0 hd0) (hrunS _ _ _ hu hv) h (by simp only [R]) rfl
   ·simp [Ev.run] at h6
theorem b4m (h:Sim E N st a w val ow) {T sz n:Nat} {x i:X} (ho:o.op= .indexAddr T x.op i.op) (hd:∀ d,o.dst=some d->d < N) (hok:a3m P N (.aaddrv T sz n x i)=true)
  (hr:(a0w G N o.dst (.aaddrv T sz n x i)).run st=some (u,st')):Done E N P o a w st':=by
 simp only [a3m,Bool.and_eq_true] at hok
 obtain ⟨⟨hx,hi⟩,hok⟩:=hok
 simp only [a0w] at hr
 obtain ⟨j,st1,k1,k2⟩:=a0a hr
 obtain ⟨rfl,kj,hj⟩:=a3r h hi k1
 obtain ⟨_,st2,k3,k4⟩:=a0a k2
 obtain ⟨hj0,rfl⟩:=a0b k3
 simp only [Bool.and_eq_true,decide_eq_true_eq] at hj0
 have hrun:∀ b o1,a.eval x.op= .pointer (some ⟨b,o1,none⟩)->(execOp a.eval o).run P w= .ok (.value (.pointer (some ⟨b,o1+j.toNat*sz,none⟩))) w:=fun b o1 hp=>by
  split at hok
  ·rename_i m e hu
   simp only [Bool.and_eq_true,beq_iff_eq] at hok
   obtain ⟨rfl,h2⟩:=hok
   split at h2
   ·rename_i inf hinf
    have h2:sz=inf.size:=by simpa using h2
    have hc:0<=j/\j < (m:Int):=hj0
    simp only [execOp,ho,hp,hj]
    refine a3c ?_
    simp [Instr.indexAt,asIntOf,run_underlying hu,Instr.sureAddr,sizeOf,typeInfo,hinf,hc,a1u,h2]
   ·cases h2
  ·cases hok
 obtain ⟨r,st1,h1,h2⟩:=a0a k4
 obtain ⟨rfl,hR,ht⟩:=a0i h hx h1
 obtain ⟨v,e⟩:=r
 simp only at h2 hR
 split at h2
 ·rename_i ks o1
  obtain ⟨d0,hd0,rfl⟩:=a0e h2
  simp only [R] at hR
  obtain ⟨b,o2,vs,hv,hb,hc,hr1,hcell⟩:=hR
  refine Done.of_fin hd0 (hd d0 hd0) (hrun _ _ hv) h ?_ rfl
  simp only [R]
  exact ⟨b,o2,vs,by rw [Nat.add_assoc],hb,hc,hr1,hcell⟩
 ·obtain ⟨⟨t,q,o1,v1,e1,ks⟩,st2,h3,h4⟩:=a0a h2
  obtain ⟨rfl,rfl,rfl,hrow,hlt,u1,b,g1,g2,g3,g4⟩:=a3u h hx h3
  obtain ⟨d0,hd0,rfl⟩:=a0e h4
  refine Done.of_fin hd0 (hd d0 hd0) (hrun _ _ g4) h ?_ rfl
  simp only [R]
  exact b4k (Nat.le_refl _) g1 g2
theorem b6y (h:Sim E N st a w val ow) {T sz:Nat} {x i:X} (ho:o.op= .indexAddr T x.op i.op) (hd:∀ d,o.dst=some d->d < N) (hok:a3m P N (.iaddr T sz x i)=true)
  (hr:(a0w G N o.dst (.iaddr T sz x i)).run st=some (u,st')):Done E N P o a w st':=by
 simp only [a3m,Bool.and_eq_true] at hok
 obtain ⟨⟨hx,hi⟩,hT⟩:=hok
 obtain ⟨e,he,hsz⟩:∃ e,P.underlying T=some (.slice e)/\a71 P e sz=true:=by
  split at hT
  ·rename_i e he; exact ⟨e,he,hT⟩
  ·cases hT
 obtain ⟨inf,hinf,hsize⟩:=a2m hsz
 have hrun:∀ (ad:Addr) (n c:Nat) (j:Int) (k:IntKind),a.eval x.op= .slice (some ad) n c->a.eval i.op= .int k j->0<=j->j < n->(execOp a.eval o).run P w= .ok (.value (.pointer (some (ad.add (j.toNat*sz))))) w:=fun ad n c j k hv hj h0 h1=>by
  simp only [execOp,ho,hv,hj]
  refine a3c ?_
  have hc:0<=j/\j < (n:Int):=⟨h0,h1⟩
  simp [Instr.indexAt,asIntOf,run_underlying he,hc,sizeOf,typeInfo,hinf,hsize]
 simp only [a0w] at hr
 obtain ⟨j,st1,h1,h2⟩:=a0a hr
 obtain ⟨rfl,kj,hj⟩:=a3r h hi h1
 obtain ⟨_,st2,h3,h4⟩:=a0a h2
 obtain ⟨hj0,rfl⟩:=a0b h3
 have hj0:0<=j:=by simpa using hj0
 obtain ⟨⟨v,e1⟩,st3,h5,h6⟩:=a0a h4
 obtain ⟨rfl,hR,ht⟩:=a0i h hx h5
 simp only at h6 hR
 split at h6
 ·rename_i m ks
  obtain ⟨_,st4,h7,h8⟩:=a0a h6
  obtain ⟨hjm,rfl⟩:=a0b h7
  simp only [Bool.and_eq_true,decide_eq_true_eq] at hjm
  obtain ⟨hjm,hlt⟩:=hjm
  obtain ⟨d0,hd0,rfl⟩:=a0e h8
  simp only [R] at hR
  obtain ⟨ad,c,hv,hmc,vs,hc1,hrl,hcell⟩:=hR
  rcases hcell with hvs | ⟨b,o1,hb,hM,hcell⟩
  ·have:=a0m hrl
   rw [hvs,List.length_nil] at this
   omega
  ·subst hb
   refine Done.of_fin hd0 (hd d0 hd0) (hrun _ _ _ j kj hv hj hj0 hjm) h ?_ rfl
   simp only [R,a1u]
   exact ⟨b,o1,vs,rfl,hM,hc1,hrl,hcell⟩
 ·obtain ⟨⟨t,q,lo,m⟩,st4,h7,h8⟩:=a0a h6
  obtain ⟨rfl,_⟩:=a3q h hx h7
  obtain ⟨_,st5,h9,h10⟩:=a0a h8
  obtain ⟨hjm,rfl⟩:=a0b h9
  have hjm:j < m:=by simpa using hjm
  obtain ⟨r,st6,h11,h12⟩:=a0a h10
  obtain ⟨rfl,rfl⟩:=a09 h11
  obtain ⟨k,st7,h13,h14⟩:=a0a h12
  obtain ⟨hk,rfl⟩:=a0r h13
  simp only at hk h14
  split at h14
  ·rename_i sz' n0 ks
   obtain ⟨_,st8,h15,h16⟩:=a0a h14
   obtain ⟨hg,rfl⟩:=a0b h15
   simp only [Bool.and_eq_true,beq_iff_eq,decide_eq_true_eq] at hg
   obtain ⟨d0,hd0,rfl⟩:=a0e h16
   obtain ⟨hs',hlo⟩:=hg
   subst hs'
   obtain ⟨a0,c0,g1,g2,g3,hv⟩:=b0m h hx h7 hk hlo
   obtain ⟨b,rfl⟩:=g3 (by omega)
   have hne:c0≠lo:=by omega
   simp only [hne,if_false,Option.map_some,a1u] at hv
   refine Done.of_fin hd0 (hd d0 hd0) (hrun _ _ _ j kj hv hj hj0 hjm) h ?_ rfl
   simp only [R,a1u]
   have:0+lo*sz'+j.toNat*sz'=(lo+j.toNat)*sz':=by rw [Nat.zero_add,Nat.add_mul]
   rw [this]
   exact b4k (Nat.le_refl _) g1 rfl
  ·simp [Ev.run] at h14
end
open Classical
section
variable {E:Env} {N:Nat} {st:St} {a:Act} {w:World} {val:Nat->Value} {ow:Nat->Option Nat}
variable {P:Program} {o:Oper} {u:Unit} {st':St} {G:GG}
theorem b3c (h:Sim E N st a w val ow) {s d:TypeId} {k:IntKind} {x:X} (ho:o.op= .convert s d x.op) (hd:∀ d,o.dst=some d->d < N) (hok:a3m P N (.conv s d (.int k) x)=true)
  (hr:(a0w G N o.dst (.conv s d (.int k) x)).run st=some (u,st')):Done E N P o a w st':=by
 simp only [a3m,Bool.and_eq_true] at hok
 obtain ⟨hx,hs,hk⟩:=hok
 have hdu:P.underlying d=some (.int k):=by
  split at hk
  ·rename_i k' he; rw [he]; simp at hk; rw [hk]
  ·cases hk
 obtain ⟨su,hsu⟩:=Option.isSome_iff_exists.1 hs
 simp only [a0w] at hr
 obtain ⟨v,st1,h1,h2⟩:=a0a hr
 obtain ⟨rfl,hv⟩:=a18 h hx h1
 cases v<;>simp only [Ev.run_fail,reduceCtorEq] at h2
 rename_i k0 n
 obtain ⟨d0,hd0,rfl⟩:=a0e h2
 have hrun:(execOp a.eval o).run P w= .ok (.value (.int k (k.wrap n))) w:=by
  simp only [execOp,ho,hv]
  refine a3c ?_
  simp [convert,run_underlying hsu,run_underlying hdu,Conv.intToInt]
 exact Done.of_fin hd0 (hd d0 hd0) hrun h (by simp only [R]) rfl
theorem c0z (h:Sim E N st a w val ow) {T:TypeId} {x:X} (ho:o.op= .makeInterface T x.op) (hd:∀ d,o.dst=some d->d < N) (hok:a3m P N (.mki T x)=true)
  (hr:(a0w G N o.dst (.mki T x)).run st=some (u,st')):Done E N P o a w st':=by
 simp only [a3m,Bool.and_eq_true] at hok
 obtain ⟨hx,hT⟩:=hok
 have hrun:(execOp a.eval o).run P w= .ok (.value (.iface T (a.eval x.op))) w:=by
  simp only [execOp,ho]
  refine a3c ?_
  cases hu:P.underlying T with
  | none=>simp [hu] at hT
  | some t=>cases t<;>simp [hu] at hT<;>simp [Instr.makeInterface,run_underlying hu]
 simp only [a0w] at hr
 obtain ⟨r,st1,h1,h2⟩:=a0a hr
 obtain ⟨rfl,hR,ht⟩:=a0i h hx h1
 obtain ⟨v,e⟩:=r
 simp only at h2 hR
 cases v<;>simp only [Ev.run_fail,reduceCtorEq] at h2
 case lit v=>
  obtain ⟨d0,hd0,rfl⟩:=a0e h2
  simp only [R] at hR
  exact Done.of_fin hd0 (hd d0 hd0) hrun h (by simp only [R]; rw [hR]) rfl
 case ip ks off=>
  obtain ⟨d0,hd0,rfl⟩:=a0e h2
  refine Done.of_fin hd0 (hd d0 hd0) hrun h ?_ rfl
  simp only [R] at hR ⊢
  exact ⟨_,rfl,hR⟩
 case var ks=>
  obtain ⟨t,st2,h3,h4⟩:=a0a h2
  obtain ⟨rfl,rfl⟩:=a1n h3
  obtain ⟨_,st3,h5,h6⟩:=a0a h4
  have:=a1c h5
  subst this
  obtain ⟨d0,hd0,rfl⟩:=a0e h6
  obtain ⟨h7,h8,h9⟩:=ht t rfl
  injection h7 with h7 _
  have hf:=h.freeze t
  rw [<-h7] at hf
  refine Done.of_fin hd0 (hd d0 hd0) hrun hf ?_ rfl
  have:=hf.slots t
  simp only [St.set_s,if_true] at this
  have e:frz (.var ks)= .ip (a1b ks) 0:=by simp [frz]
  rw [e] at this ⊢
  rw [h9]
  simp only [R] at this ⊢
  exact ⟨_,rfl,this⟩
theorem c23 (h:Sim E N st a w val ow) {mx:Bool} {ts:List TypeId} {xs:List X} (ho:o.op= .call { callee:= .builtin (if mx then .max else .min),args:=(xs.map X.op).toArray,argTypes:=ts.toArray }) (hd:∀ d,o.dst=some d->d < N) (hok:a3m P N (.mm mx ts xs)=true)
  (hr:(a0w G N o.dst (.mm mx ts xs)).run st=some (u,st')):Done E N P o a w st':=by
 match xs,hok,hr,ho with
 | [x,y],hok,hr,ho=>
  simp only [a3m,List.all_cons,List.all_nil,Bool.and_true,Bool.and_eq_true] at hok
  simp only [a0w] at hr
  obtain ⟨v,st1,h1,h2⟩:=a0a hr
  obtain ⟨rfl,hv⟩:=a18 h hok.1 h1
  obtain ⟨v2,st2,h3,h4⟩:=a0a h2
  obtain ⟨rfl,hv2⟩:=a18 h hok.2 h3
  split at h4
  ·rename_i k n k2 m
   obtain ⟨_,st3,h5,h6⟩:=a0a h4
   obtain ⟨hk,rfl⟩:=a0b h5
   have hk:k=k2:=by simpa using hk
   subst hk
   obtain ⟨d0,hd0,rfl⟩:=a0e h6
   refine Done.of_fin hd0 (hd d0 hd0) (v:= .int k (if mx then (if m > n then m else n) else (if m < n then m else n))) ?_ h (by simp only [R]) rfl
   simp only [execOp,ho,resolve,List.map_toArray,List.map_cons,List.map_nil,hv,hv2]
   cases mx<;>simp [builtin,Builtin.max_,Builtin.min_,Builtin.max2,Builtin.min2,invoke]
  ·simp [Ev.run] at h4
 | [],_,hr,_=>simp [a0w,Ev.run] at hr
 | [_],_,hr,_=>simp [a0w,Ev.run] at hr
 | _::_::_::_,_,hr,_=>simp [a0w,Ev.run] at hr
theorem Sim.takeTup (h:Sim E N st a w val ow) {t j i:Nat} {ks:List AV} {k:AV} (hs:st.s t= .tup ks) (hk:ks[i]? =some k) (hj:N<=j) (htj:t≠j) :
  ∃ arr u ow',val t= .tuple arr/\arr[i]? =some u/\Sim E N ((st.set t (.tup (ks.set i .dead))).put j k) a w (a0u val j u) ow':=by
 have hR:=h.slots t
 rw [hs] at hR
 simp only [R] at hR
 obtain ⟨arr,hv,hrl⟩:=hR
 obtain ⟨u,hu,Fk,G,f1,f2,f3,hr,fill⟩:=a5g hrl hk
 refine ⟨arr,u,fun b=>if Fk b then some j else if ow b=some j then some t else ow b,hv,by simpa using hu,h.ghost (fun u=>u=t\/u=j) (fun s hs=>by simp [a0u]; omega) (fun b s hb=> ?_) (fun s hs=> ?_) (fun s q'=> ?_) (fun hq hM s hs'=> ?_)⟩
 ·by_cases h1:Fk b
  ·exact ⟨t,f1 b h1⟩
  ·by_cases h2:ow b=some j
   ·exact ⟨j,h2⟩
   ·simp [h1,h2] at hb; exact ⟨s,hb⟩
 ·have h1:s≠t:=fun he=>hs (.inl he)
  have h2:s≠j:=fun he=>hs (.inr he)
  refine ⟨by simp [h1,h2],by simp [a0u,h2],fun b hb=> ?_⟩
  have e1:¬ Fk b:=fun hf=>by have:=f1 b hf; rw [hb] at this; injection this with e; exact h1 e
  have e2:ow b≠some j:=by rw [hb]; simpa using h2
  simp [e1,hb,h2]
 ·by_cases hs1:s=j
  ·subst hs1; exact Stab.put (v:=k) (by simp) (by simp [St.put_ep]) q'
  ·by_cases hst:s=t
   ·subst hst
    exact Stab.norow (by simp [St.put_ep,hs1]) (by simp [hs1,a0l]) q'
   ·exact Stab.same (by simp [St.put_ep,hs1]) (by simp [hs1,hst]) (by simp [a0u,hs1])
 ·by_cases hsj:s=j
  ·subst hsj
   simp only [St.put_s,if_true,a0u]
   exact a0t hM (fun _ _=>rfl) k (fun _ _ h=>h.elim) (fun b hb=>by simp [hb]) (fun _ _=>rfl) hr
  ·have:s=t:=hs'.resolve_right hsj
   subst this
   simp only [St.put_s,St.set_s,hsj,if_false,if_true,a0u]
   have:=fill w _ .dead u noB hM (fun _ _=>rfl) (fun _ _=>rfl) (fun _ h=>h.elim) (by simp only [R])
   rw [b32 hu] at this
   rw [hv]
   simp only [R]
   refine ⟨arr,rfl,a1r ?_ this⟩
   rintro x (hx | hx)
   ·exact hx.elim
   ·have e1:¬ Fk x:=fun hf=>f3 x hf hx
    have e2:ow x≠some j:=by rw [f2 x hx]; simpa using htj
    simp [e1,f2 x hx,htj]
theorem c0h (h:Sim E N st a w val ow) {x:X} {i:Nat} (ho:o.op= .extract x.op i) (hd:∀ d,o.dst=some d->d < N) (hx:okX N x=true)
  (hr:(a0w G N o.dst (.ext x i)).run st=some (u,st')):Done E N P o a w st':=by
 simp only [a0w] at hr
 obtain ⟨r,st1,h1,h2⟩:=a0a hr
 obtain ⟨rfl,hR,ht⟩:=a0i h hx h1
 obtain ⟨v,e⟩:=r
 simp only at h2 hR
 cases v<;>simp only [Ev.run_fail,reduceCtorEq] at h2
 rename_i ks
 obtain ⟨k,st2,h3,h4⟩:=a0a h2
 obtain ⟨hk,rfl⟩:=a0r h3
 have hR0:=hR
 simp only [R] at hR
 obtain ⟨arr,hv,hrl⟩:=hR
 obtain ⟨v0,hv0,F1,F2,f1,f2,f3,hr0,fill⟩:=a5g hrl hk
 have hget:arr[i]? =some v0:=by simpa using hv0
 have hrun:(execOp a.eval o).run P w= .ok (.value v0) w:=by
  simp only [execOp,ho,hv]
  refine a3c ?_
  simp [Instr.extract,hget]
 split at h4
 ·rename_i hn
  obtain ⟨d0,hd0,rfl⟩:=a0e h4
  exact Done.of_fin hd0 (hd d0 hd0) hrun h (a0t (fun _ h=>h) (fun _ _=>rfl) _ (fun _ _ h=>h.elim) (fun _ h=>h) (fun _ _=>rfl) (a1d _ hn hr0)) (a5j hn)
 ·obtain ⟨t,st3,h5,h6⟩:=a0a h4
  obtain ⟨rfl,rfl⟩:=a1n h5
  obtain ⟨_,st4,h7,h8⟩:=a0a h6
  have:=a0g h7
  subst this
  obtain ⟨g1,g2,g3⟩:=ht t rfl
  injection g1 with g1 _
  obtain ⟨arr',u',ow',e1,e2,hp⟩:=h.takeTup g1.symm hk (Nat.le_refl N) (by omega)
  rw [<-g3,hv] at e1
  injection e1 with e1
  subst e1
  rw [hget] at e2
  injection e2 with e2
  subst e2
  rw [a0y _ t (by simp [a0l])] at h8
  exact Done.thru hd hrun hp (by simp [a0u]) h8
theorem c1p (h:Sim E N st a w val ow) {x:X} {xT T:TypeId} {zs:List AV} (ho:o.op= .typeAssert x.op xT T true) (hd:∀ d,o.dst=some d->d < N) (hok:a3m P N (.tas x xT T zs)=true)
  (hr:(a0w G N o.dst (.tas x xT T zs)).run st=some (u,st')):Done E N P o a w st':=by
 simp only [a3m,Bool.and_eq_true] at hok
 obtain ⟨⟨⟨hx,hz⟩,hT⟩,hz1⟩:=hok
 obtain ⟨inf,z,hi,hz0,hzv⟩:=a4u hz
 obtain ⟨hzr,hzc⟩:=a6s (w:=w) (M:=Mo E w ow) hzv
 have hone:z.oneCell'=true:=by simpa [hi,hz0] using hz1
 have hcz:z.cells.toList=[z]:=by rw [b4v hone]
 rw [hcz] at hzr
 have hfail:∀ v,(v= .nilIface\/∃ t u,v= .iface t u/\t≠T)->a.eval x.op=v->(execOp a.eval o).run P w= .ok (.value (.tuple #[z,.bool false])) w:=fun v hv he=>by
  simp only [execOp,ho,he]
  refine a3c ?_
  cases hu:P.underlying T with
  | none=>simp [hu] at hT
  | some t=>
   rcases hv with rfl | ⟨t1,u1,rfl,hne⟩
   ·cases t<;>simp [hu] at hT<;>simp [Instr.typeAssert,run_underlying hu,zeroValue,typeInfo,hi,hz0]
   ·cases t<;>simp [hu] at hT<;>simp [Instr.typeAssert,run_underlying hu,zeroValue,typeInfo,hi,hz0,hne]
 have hhold:∀ u,a.eval x.op= .iface T u->(execOp a.eval o).run P w= .ok (.value (.tuple #[u,.bool true])) w:=fun u0 he=>by
  simp only [execOp,ho,he]
  refine a3c ?_
  cases hu:P.underlying T with
  | none=>simp [hu] at hT
  | some t=>cases t<;>simp [hu] at hT<;>simp [Instr.typeAssert,run_underlying hu]
 have pair:∀ (k:AV) (v:Value) (b:Bool),R w (Mo E w ow) k noQ noB v->R w (Mo E w ow) (.tup [k,.lit (.bool b)]) (QS w st val) noB (.tuple #[v,.bool b]):=fun k v b hk=>by
  simp only [R,RL]
  exact ⟨_,rfl,v,_,rfl,noB,noB,fun _ h=>h,fun _ h=>h,fun _ _ h=>h,hk,_,_,rfl,noB,noB,fun _ h=>h,fun _ h=>h,fun _ _ h=>h,rfl,rfl⟩
 simp only [a0w] at hr
 obtain ⟨r,st1,h1,h2⟩:=a0a hr
 obtain ⟨rfl,hR,ht⟩:=a0i h hx h1
 obtain ⟨v,e⟩:=r
 simp only at h2 hR
 have zR:∀ z0,zs=[z0]->R w (Mo E w ow) z0 noQ noB z:=fun z0 he=>by
  subst he
  obtain ⟨v1,hv1,hr1⟩:=b7v hzr
  injection hv1 with hv1
  rw [hv1]; exact hr1
 split at h2
 ·rename_i z0
  obtain ⟨d0,hd0,rfl⟩:=a0e h2
  simp only [R] at hR
  exact Done.of_fin hd0 (hd d0 hd0) (hfail _ (.inl rfl) hR) h (pair _ _ _ (zR _ rfl)) rfl
 ·rename_i T' u0 z0
  obtain ⟨d0,hd0,rfl⟩:=a0e h2
  simp only [R] at hR
  by_cases hTT:T'=T
  ·subst hTT
   simp only [if_true]
   exact Done.of_fin hd0 (hd d0 hd0) (hhold _ hR) h (pair _ _ _ (by simp only [R])) rfl
  ·simp only [hTT,if_false]
   exact Done.of_fin hd0 (hd d0 hd0) (hfail _ (.inr ⟨_,_,rfl,hTT⟩) hR) h (pair _ _ _ (zR _ rfl)) rfl
 ·rename_i T' k z0
  obtain ⟨_,st2,h3,h4⟩:=a0a h2
  obtain ⟨hn,rfl⟩:=a0b h3
  obtain ⟨d0,hd0,rfl⟩:=a0e h4
  simp only [R] at hR
  obtain ⟨u0,hv,hr0⟩:=hR
  by_cases hTT:T'=T
  ·subst hTT
   simp only [if_true]
   exact Done.of_fin hd0 (hd d0 hd0) (hhold _ hv) h (pair _ _ _ (a1d _ hn hr0)) rfl
  ·simp only [hTT,if_false]
   exact Done.of_fin hd0 (hd d0 hd0) (hfail _ (.inr ⟨_,_,rfl,hTT⟩) hv) h (pair _ _ _ (zR _ rfl)) rfl
 ·simp [Ev.run] at h2
end
theorem c1b (n:Nat) (zs:List AV):b1u (n+1) zs=zs++b1u n zs:=by simp [b1u,List.replicate_succ]
theorem b6b {w:World} {M:BS} {zs:List AV} {vs:List Value} (h:RL w M zs noQ noB vs):∀ n,RL w M (b1u n zs) noQ noB (List.replicate n vs).flatten
 | 0=>by simp [b1u,RL]
 | n+1=>by
  rw [c1b,List.replicate_succ,List.flatten_cons]
  exact a1r (by rintro b (hb | hb)<;>exact hb) (a1e h (b6b h n) (fun _ h=>h.elim))
theorem a5r (z:Array Value):∀ n,(madeCells z (n*z.size)).toList=(List.replicate n z.toList).flatten
 | 0=>by simp [madeCells]
 | n+1=>by
  rw [List.replicate_succ,List.flatten_cons,<-a5r z n]
  simp only [madeCells,Array.toList_map,Array.toList_range]
  have e:(n+1)*z.size=z.size+n*z.size:=by rw [Nat.add_mul,Nat.one_mul,Nat.add_comm]
  rw [e,List.range_add,List.map_append]
  congr 1
  ·apply List.ext_getElem?
   intro j
   simp only [List.getElem?_map]
   by_cases hj:j < z.size
   ·rw [List.getElem?_range hj]
    simp [Nat.mod_eq_of_lt hj,hj]
   ·rw [List.getElem?_eq_none (by simp; omega),List.getElem?_eq_none (by simp; omega)]
    rfl
  ·simp only [List.map_map]
   congr 1
   funext i
   simp [Nat.add_mod_left]
theorem b9q {vs:List Value} (h:C1 vs) (n:Nat):C1 (List.replicate n vs).flatten:=by
 intro u hu
 simp only [List.mem_flatten,List.mem_replicate] at hu
 obtain ⟨l,⟨_,rfl⟩,hl⟩:=hu
 exact h u hl
theorem b6r (vs:List Value) (n:Nat):(List.replicate n vs).flatten.length=n*vs.length:=by simp
theorem c0i (vs:List Value) (n c:Nat) (h:n<=c):((List.replicate c vs).flatten).take (n*vs.length)=(List.replicate n vs).flatten:=by
 obtain ⟨k,rfl⟩:=Nat.exists_eq_add_of_le h
 rw [<-List.replicate_append_replicate,List.flatten_append]
 rw [<-b6r vs n,List.take_left]
section
variable {E:Env} {N:Nat} {st:St} {a:Act} {w:World} {val:Nat->Value} {ow:Nat->Option Nat}
variable {P:Program} {o:Oper} {u:Unit} {st':St} {G:GG}
theorem a8c:∀ {xs:List X} {st:St} {ks:List AV} {st':St},Sim E N st a w val ow->xs.all (okX N)=true->(b0b xs).run st=some (ks,st')->st'=st/\RL w (Mo E w ow) ks (QS w st val) noB (xs.map fun x=>a.eval x.op)
 | [],st,ks,st',_,_,hr=>by
  simp only [b0b,Ev.run_pure,Option.some.injEq,Prod.mk.injEq] at hr
  obtain ⟨rfl,rfl⟩:=hr
  exact ⟨rfl,by simp [RL]⟩
 | x::xs,st,ks,st',h,hx,hr=>by
  simp only [List.all_cons,Bool.and_eq_true] at hx
  simp only [b0b] at hr
  obtain ⟨r,st1,h1,h2⟩:=a0a hr
  obtain ⟨rfl,hR,ht⟩:=a0i h hx.1 h1
  obtain ⟨v,e⟩:=r
  simp only at h2 hR
  have tail:∀ k:AV,R w (Mo E w ow) k (QS w st1 val) noB (a.eval x.op)->(do let ks<-b0b xs; pure (k::ks):Ev (List AV)).run st1=some (ks,st')->st'=st1/\RL w (Mo E w ow) ks (QS w st1 val) noB ((x::xs).map fun x=>a.eval x.op):=by
   intro k hk h3
   obtain ⟨ks2,st2,h4,h5⟩:=a0a h3
   obtain ⟨rfl,hrl⟩:=a8c h hx.2 h4
   simp only [Ev.run_pure,Option.some.injEq,Prod.mk.injEq] at h5
   obtain ⟨rfl,rfl⟩:=h5
   refine ⟨rfl,?_⟩
   simp only [List.map_cons,RL]
   exact ⟨_,_,rfl,noB,noB,fun _ h=>h,fun _ h=>h,fun _ _ h=>h,hk,hrl⟩
  cases v<;>simp only [Ev.run_fail,reduceCtorEq] at h2
  case var ks0=>
   obtain ⟨t,st2,h3,h4⟩:=a0a h2
   obtain ⟨rfl,rfl⟩:=a1n h3
   refine tail _ ?_ h4
   obtain ⟨h7,h8,h9⟩:=ht t rfl
   injection h7 with h7 h7e
   simp only [R] at hR ⊢
   obtain ⟨b,cur,T,fz,hv,_⟩:=hR
   simp only [QS]
   refine ⟨by rw [h7e]; exact Nat.le_refl _,fun _ k ks' hk hrow _=>⟨_,b,rfl,?_,hv⟩⟩
   rw [<-h9,hv]; rfl
  case lit=>exact tail _ (a1d _ rfl hR) h2
  case sl=>exact tail _ (a1d _ rfl hR) h2
  case ip=>exact tail _ (a1d _ rfl hR) h2
  case fn=>exact tail _ (a1d _ rfl hR) h2
  case ref=>exact tail _ (a1d _ rfl hR) h2
theorem b5f (h:Sim E N st a w val ow) {f:FuncId} {fs cs:List X} (ho:o.op= .makeFunc (.func f) (fs.map X.op).toArray (cs.map X.op).toArray) (hd:∀ d,o.dst=some d->d < N) (hok:a3m P N (.mkf f fs cs)=true)
  (hr:(a0w G N o.dst (.mkf f fs cs)).run st=some (u,st')):Done E N P o a w st':=by
 simp only [a3m,Bool.and_eq_true] at hok
 simp only [a0w] at hr
 obtain ⟨as,st1,h1,h2⟩:=a0a hr
 obtain ⟨rfl,hr1⟩:=a8c h hok.1 h1
 obtain ⟨bs,st2,h3,h4⟩:=a0a h2
 obtain ⟨rfl,hr2⟩:=a8c h hok.2 h3
 obtain ⟨d0,hd0,rfl⟩:=a0e h4
 have hrun:(execOp a.eval o).run P w= .ok (.value (.func (.func f) (fs.map fun x=>a.eval x.op).toArray (cs.map fun x=>a.eval x.op).toArray)) w:=by
  simp only [execOp,ho]
  refine a3c ?_
  simp [Instr.makeFunc]
  try exact ⟨rfl,rfl⟩
 refine Done.of_fin hd0 (hd d0 hd0) hrun h ?_ rfl
 simp only [R]
 exact ⟨_,_,rfl,hr1,hr2⟩
theorem a6d:∀ {xs:List X} {st:St} {ow:Nat->Option Nat} {u:Unit} {st':St},Sim E N st a w val ow->xs.all (okX N)=true->(a68 xs).run st=some (u,st')->∃ ow',Sim E N st' a w val ow'
 | [],st,ow,u,st',h,_,hr=>by
  simp only [a68,Ev.run_pure,Option.some.injEq,Prod.mk.injEq] at hr
  obtain ⟨_,rfl⟩:=hr
  exact ⟨ow,h⟩
 | x::xs,st,ow,u,st',h,hx,hr=>by
  simp only [List.all_cons,Bool.and_eq_true] at hx
  simp only [a68] at hr
  obtain ⟨r,st1,h1,h2⟩:=a0a hr
  obtain ⟨rfl,hR,ht⟩:=a0i h hx.1 h1
  obtain ⟨v,e⟩:=r
  simp only at h2 hR
  cases v<;>simp only at h2
  case var ks0=>
   obtain ⟨t,st2,h3,h4⟩:=a0a h2
   obtain ⟨rfl,rfl⟩:=a1n h3
   obtain ⟨_,st3,h5,h6⟩:=a0a h4
   have:=a1c h5
   subst this
   obtain ⟨h7,h8,h9⟩:=ht t rfl
   injection h7 with h7 _
   have hf:=h.freeze t
   rw [<-h7] at hf
   exact a6d hf hx.2 h6
  all_goals exact a6d h hx.2 h2
theorem c01 (h:Sim E N st a w val ow) {f:FuncId} {fs cs:List X} (ho:o.op= .makeFunc (.func f) (fs.map X.op).toArray (cs.map X.op).toArray) (hd:∀ d,o.dst=some d->d < N) (hok:a3m P N (.mkz f fs cs)=true)
  (hr:(a0w G N o.dst (.mkz f fs cs)).run st=some (u,st')):Done E N P o a w st':=by
 have hok2:=hok
 simp only [a3m,Bool.and_eq_true] at hok2
 simp only [a0w] at hr
 obtain ⟨_,st1,h1,h2⟩:=a0a hr
 obtain ⟨ow',hs⟩:=a6d h hok2.2 h1
 exact b5f (G:=G) (f:=f) hs ho hd hok (by simpa only [a0w] using h2)
theorem c09 {w':World} {M F:BS} {b n c:Nat} {arr cur:Array Value} {T:TypeId} {sz:Nat} {ks:List AV} (hF:F b) (hh:w'.heap[b]? =some (.cells cur T (0,0))) (hn:n<=c) (hc:c<=maxLen) (hcs:cur.size=c*sz)
  (htk:cur.toList.take (n*sz)=arr.toList) (h1:C1 arr.toList) (hr:RL w' M ks noQ (fun x=>F x/\x≠b) arr.toList):R w' M (.own sz n ks) noQ F (.slice (some ⟨b,0,none⟩) n c):=by
 simp only [R]
 exact .inr ⟨b,c,cur,T,(0,0),rfl,hF,hh,.inl rfl,hn,hc,hcs,by rw [htk]; exact h1,by rw [htk]; exact hr⟩
theorem c00 (h:Sim E N st a w val ow) {T e:TypeId} {sz by_:Nat} {zs:List AV} {l c:X} (ho:o.op= .makeSlice T l.op c.op) (hd:∀ d,o.dst=some d->d < N) (hok:a3m P N (.mks T e sz by_ zs l c)=true)
  (hr:(a0w G N o.dst (.mks T e sz by_ zs l c)).run st=some (u,st')):Done E N P o a w st':=by
 simp only [a3m,Bool.and_eq_true] at hok
 obtain ⟨⟨⟨⟨⟨⟨hl,hc⟩,hT⟩,hs⟩,hb⟩,hz⟩,hzl⟩:=hok
 have hT:=a8k hT
 obtain ⟨inf,z,hi,hz0,hzv⟩:=a4u hz
 obtain ⟨hzr,hzc⟩:=a6s (w:=w) (M:=Mo E w ow) hzv
 obtain ⟨inf2,hi2,hsize⟩:=a2m hs
 rw [hi] at hi2; injection hi2 with hi2; subst hi2
 have hby:inf.bytes=by_:=by simpa [b7z,hi] using hb
 have hzl:zs.length=sz:=by simpa using hzl
 have hzs:z.cells.size=sz:=by have:=a0m hzr; simp at this; omega
 simp only [a0w] at hr
 obtain ⟨n,st1,h1,h2⟩:=a0a hr
 obtain ⟨rfl,kl,hvl⟩:=a3r h hl h1
 obtain ⟨m,st2,h3,h4⟩:=a0a h2
 obtain ⟨rfl,kc,hvc⟩:=a3r h hc h3
 obtain ⟨_,st3,h5,h6⟩:=a0a h4
 obtain ⟨hg,rfl⟩:=a0b h5
 simp only [Bool.and_eq_true,decide_eq_true_eq] at hg
 obtain ⟨⟨⟨g1,g2⟩,g3⟩,g4⟩:=hg
 have hrun0:=run_make (P:=P) w T e inf z hT hi hz0 kl kc n m g1 g2 (by rw [hby,Int.mul_comm]; omega) (by omega)
 rw [hsize] at hrun0
 have hrun:(execOp a.eval o).run P w= .ok (.value (.slice (some ⟨w.heap.size,0,none⟩) n.toNat m.toNat)) (w.alloc (.cells (madeCells z.cells (m.toNat*sz)) e)):=by
  simp only [execOp,ho,hvl,hvc]
  exact a3c hrun0
 have hflat:=a5r z.cells m.toNat
 rw [hzs] at hflat
 have hzn:z.cells.toList.length=sz:=by simpa using hzs
 have h7:=h.layp (j:=N) (av:= .agg (b1u n.toNat zs)) (v:= .agg (List.replicate n.toNat z.cells.toList).flatten.toArray) (Q:=noQ) (Nat.le_refl N) (fun _ _ h=>h.elim) (by
  simp only [R]; exact ⟨_,rfl,b9q hzc _,b6b hzr _⟩)
 obtain ⟨arr,harr,hal⟩:=h7.alloc (Nat.le_refl N) (ks:=b1u n.toNat zs) (by simp)
 simp only [a0u,if_true] at harr
 injection harr with harr
 have htk:(madeCells z.cells (m.toNat*sz)).toList.take (n.toNat*sz)=arr.toList:=by
  rw [hflat,<-harr]
  have:=c0i z.cells.toList n.toNat m.toNat (by omega)
  rw [hzn] at this
  simpa using this
 have h8:=hal (madeCells z.cells (m.toNat*sz)) e (0,0) (w.alloc (.cells (madeCells z.cells (m.toNat*sz)) e)) (.own sz n.toNat (b1u n.toNat zs)) (.slice (some ⟨w.heap.size,0,none⟩) n.toNat m.toNat) rfl rfl rfl rfl
  (fun M F hF hh hc1 hr1=>c09 hF hh (by omega) (by simp only [maxLen]; omega) (size_madeCells _ _) htk hc1 hr1)
 rw [b7g _ _ _ _ (by simp [a0l])] at h8
 exact Done.thru hd hrun h8 (by simp [a0u]) h6
end
theorem b6i {P:Program} {T:Nat} {ps:List (Nat×Nat×Nat)} {it:TypeInfo} {z:Value} (h:b90 P T ps=true) (hi:P.info? T=some it) (hz:it.zero=some z) :
  ∃ place:Nat->Option (Nat×Nat),(∀ p∈ps,place p.1=some (p.2.1,p.2.2))/\∀ parts,P.built T parts=Instr.fill place z.cells parts:=by
 unfold b90 at h
 split at h
 ·rename_i fs hu
  split at h
  ·rename_i places hp
   refine ⟨(places.toArray[·]?),fun p hpm=> ?_,fun parts=> ?_⟩
   ·have:=List.all_eq_true.1 h p hpm
    split at this
    ·rename_i q hq
     simp only [Bool.and_eq_true,beq_iff_eq] at this
     show places.toArray[p.1]? =_
     rw [hq,<-this.1,<-this.2]
    ·cases this
   ·unfold Program.built
    simp only [hi,hu,hz,hp]
  ·cases h
 ·rename_i n e hu
  split at h
  ·rename_i i hie
   refine ⟨fun k=>some (k*i.size,i.size),fun p hpm=> ?_,fun parts=> ?_⟩
   ·have:=List.all_eq_true.1 h p hpm
    simp only [Bool.and_eq_true,beq_iff_eq] at this
    rw [this.1,this.2]
   ·unfold Program.built
    simp only [hi,hu,hz,hie]
  ·cases h
 ·cases h
theorem b17 {P:Program} (w:World) (T e:TypeId) (i:TypeInfo) (z:Value) (hT:P.underlying T=some (.slice e)) (hi:P.info? e=some i) (hz:i.zero=some z) (len:Nat) (parts:Array (Nat×Value)) (cells:Array Value)
  (hle:len*i.size<=16777216) (hf:Instr.fill (fun k=>some (k*i.size,i.size)) (madeCells z.cells (len*i.size)) parts.toList=some cells) :
  (Instr.buildSlice T len parts).run P w= .ok (.slice (some ⟨w.heap.size,0,none⟩) len len) (w.alloc (.cells cells e)):=by
 have hs:(sizeOf e).run P w= .ok i.size w:=by simp [sizeOf,typeInfo,hi]
 unfold Instr.buildSlice
 simp only [Sem.run_bind,run_underlying hT,Result.andThen_ok,hs]
 generalize len*i.size=n at hle hf
 have hgt:¬ (n > 2 ^ 24):=by omega
 by_cases h0:n=0
 ·subst h0
  have e0:(Array.range 0).map (fun x=>(#[]:Array Value)[x % (#[]:Array Value).size]!)=madeCells z.cells 0:=by simp [madeCells]
  simp only [if_true,if_false,hgt,Sem.run_pure,Result.andThen_ok,Sem.run_bind]
  rw [e0,hf]
  simp [newRow]
 ·simp only [h0,if_false,hgt,Sem.run_pure,Result.andThen_ok,Sem.run_bind]
  have hzv:(zeroValue e).run P w= .ok z w:=by simp [zeroValue,typeInfo,hi,hz]
  simp only [hzv,Result.andThen_ok,Sem.run_bind,Sem.run_pure]
  unfold madeCells at hf
  rw [hf]
  simp [newRow]
section
variable {E:Env} {N:Nat} {st:St} {a:Act} {w:World} {val:Nat->Value} {ow:Nat->Option Nat}
variable {P:Program} {o:Oper} {u:Unit} {st':St} {G:GG}
theorem b6j (h:Sim E N st a w val ow) {T:TypeId} {zs:List AV} {parts:List (Nat×Nat×Nat×X)} (ho:o.op= .build T (parts.map fun p=>(p.1,p.2.2.2.op)).toArray) (hd:∀ d,o.dst=some d->d < N) (hok:a3m P N (.build T zs parts)=true)
  (hr:(a0w G N o.dst (.build T zs parts)).run st=some (u,st')):Done E N P o a w st':=by
 simp only [a3m,Bool.and_eq_true,List.all_eq_true] at hok
 obtain ⟨⟨hz,hx⟩,hb⟩:=hok
 obtain ⟨inf,z,hi,hz0,hzv⟩:=a4u hz
 obtain ⟨hzr,hzc⟩:=a6s (w:=w) (M:=Mo E w ow) hzv
 obtain ⟨place,hplace,hbuilt⟩:=b6i hb hi hz0
 simp only [a0w] at hr
 obtain ⟨_,st1,h1,h2⟩:=a0a hr
 have:=a0g h1
 subst this
 obtain ⟨_,st2,h3,h4⟩:=a0a h2
 have hl:=h.layp (j:=N+1) (av:= .agg zs) (v:= .agg z.cells) (Q:=noQ) (by omega) (fun _ _ h=>h.elim) (by simp only [R]; exact ⟨_,rfl,hzc,hzr⟩)
 obtain ⟨val',ow',zs',cs',g1,g2,g3,g4,g5⟩:=a7e _ hl (zs:=zs) (cs:=z.cells) (fun p hp=>by
  obtain ⟨q,hq,rfl⟩:=List.mem_map.1 hp
  exact hx q hq) (by simp) (by simp [a0u]) h3
 obtain ⟨ks,st3,h5,h6⟩:=a0a h4
 obtain ⟨hks,rfl⟩:=a5w h5
 rw [g3] at hks
 injection hks with hks
 subst hks
 obtain ⟨_,st4,h7,h8⟩:=a0a h6
 have:=a0g h7
 subst this
 have hfill:=b6q place (parts.map fun p=>(p.1,p.2.1,p.2.2.1,a.eval p.2.2.2.op)) z.cells (fun p hp=>by
  obtain ⟨q,hq,rfl⟩:=List.mem_map.1 hp
  exact hplace (q.1,q.2.1,q.2.2.1) (List.mem_map.2 ⟨q,hq,rfl⟩))
 simp only [List.map_map,Function.comp_def] at hfill g5
 rw [g5] at hfill
 have hrun:(execOp a.eval o).run P w= .ok (.value (.agg cs')) w:=by
  simp only [execOp,ho]
  refine a3c (run_build w T _ cs' ?_)
  rw [hbuilt,<-hfill]
  simp [Function.comp_def]
 obtain ⟨d0,hd0,rfl⟩:=a0e h8
 have hfj:=Done.of_finJ (P:=P) (j:=N+1) hd0 (hd d0 hd0) (by omega) hrun g1 g4
 rw [a0y _ (N+1) (v:= .dead) (by simp [a0l])]
 rw [g3] at hfj
 exact hfj
theorem b4t (h:Sim E N st a w val ow) {T e:TypeId} {sz len:Nat} {zs:List AV} {parts:List (Nat×X)} (ho:o.op= .buildSlice T len (parts.map fun p=>(p.1,p.2.op)).toArray) (hd:∀ d,o.dst=some d->d < N) (hok:a3m P N (.bslice T e sz len zs parts)=true)
  (hr:(a0w G N o.dst (.bslice T e sz len zs parts)).run st=some (u,st')):Done E N P o a w st':=by
 simp only [a3m,Bool.and_eq_true,List.all_eq_true] at hok
 obtain ⟨⟨⟨⟨⟨⟨hT,hs⟩,hz⟩,hzl⟩,hlen⟩,hlen2⟩,hx⟩:=hok
 have hlen2:len<=16777216:=by simpa using hlen2
 have hT:=a8k hT
 obtain ⟨inf,z,hi,hz0,hzv⟩:=a4u hz
 obtain ⟨hzr,hzc⟩:=a6s (w:=w) (M:=Mo E w ow) hzv
 obtain ⟨inf2,hi2,hsize⟩:=a2m hs
 rw [hi] at hi2; injection hi2 with hi2; subst hi2
 have hzl:zs.length=sz:=by simpa using hzl
 have hlen:len*sz<=16777216:=by simpa using hlen
 have hzs:z.cells.size=sz:=by have:=a0m hzr; simp at this; omega
 have hflat:=a5r z.cells len
 rw [hzs] at hflat
 simp only [a0w] at hr
 obtain ⟨_,st1,h1,h2⟩:=a0a hr
 have:=a0g h1
 subst this
 obtain ⟨_,st2,h3,h4⟩:=a0a h2
 have hl:=h.layp (j:=N+1) (av:= .agg (b1u len zs)) (v:= .agg (madeCells z.cells (len*sz))) (Q:=noQ) (by omega) (fun _ _ h=>h.elim) (by
  simp only [R]; exact ⟨_,rfl,by rw [hflat]; exact b9q hzc _,by rw [hflat]; exact b6b hzr _⟩)
 obtain ⟨val',ow',zs',cs',g1,g2,g3,g4,g5⟩:=a7e _ hl (zs:=b1u len zs) (cs:=madeCells z.cells (len*sz)) (fun p hp=>by
  obtain ⟨q,hq,rfl⟩:=List.mem_map.1 hp
  exact hx q hq) (by simp) (by simp [a0u]) h3
 obtain ⟨ks,st3,h5,h6⟩:=a0a h4
 obtain ⟨hks,rfl⟩:=a5w h5
 rw [g3] at hks
 injection hks with hks
 subst hks
 have hfill:=b6q (fun i=>some (i*sz,sz)) (parts.map fun p=>(p.1,p.1*sz,sz,a.eval p.2.op)) (madeCells z.cells (len*sz)) (fun p hp=>by
  obtain ⟨q,hq,rfl⟩:=List.mem_map.1 hp
  rfl)
 simp only [List.map_map,Function.comp_def] at hfill g5
 rw [g5] at hfill
 have hcs':cs'.size=len*sz:=by
  have r1:=g1.slots (N+1)
  rw [g3,g4] at r1
  simp only [R] at r1
  obtain ⟨_,e1,_,r1⟩:=r1
  have:∀ (ps:List (Nat×Nat×Value)) (cs cs':Array Value),b4x cs ps=some cs'->cs'.size=cs.size:=by
   intro ps
   induction ps with
   | nil=>intro cs cs' h; simp only [b4x,Option.some.injEq] at h; rw [h]
   | cons p ps ih=>
    intro cs cs' h
    obtain ⟨off,sz,v⟩:=p
    simp only [b4x] at h
    split at h
    ·cases h
    ·rename_i hc
     simp only [Bool.or_eq_true,decide_eq_true_eq,not_or,Nat.not_lt] at hc
     rw [ih _ _ h]
     simp only [List.size_toArray]
     rw [a3k _ _ _ (by simp; omega)]
     simp
  rw [this _ _ _ g5,size_madeCells]
 have hrun:(execOp a.eval o).run P w= .ok (.value (.slice (some ⟨w.heap.size,0,none⟩) len len)) (w.alloc (.cells cs' e)):=by
  simp only [execOp,ho]
  refine a3c ?_
  have hf:Instr.fill (fun i=>some (i*sz,sz)) (madeCells z.cells (len*sz)) ((parts.map fun p=>(p.1,p.2.op)).toArray.map fun (i,x)=>(i,a.eval x)).toList=some cs':=by
   rw [<-hfill]; simp [Function.comp_def]
  rw [<-hsize] at hf
  exact b17 w T e inf z hT hi hz0 len _ cs' (by rw [hsize]; exact hlen) hf
 obtain ⟨arr,harr,hal⟩:=g1.alloc (j:=N+1) (by omega) g3
 rw [g4] at harr
 injection harr with harr
 have h8:=hal cs' e (0,0) (w.alloc (.cells cs' e)) (.own sz len zs') (.slice (some ⟨w.heap.size,0,none⟩) len len) rfl rfl rfl rfl
  (fun M F hF hh hc1 hr1=>c09 hF hh (Nat.le_refl _) (by simp only [maxLen]; omega) hcs' (by rw [<-harr,List.take_of_length_le]; simp [hcs']) hc1 hr1)
 exact Done.thruJ (by omega) hd hrun h8 (by simp [a0u]) h6
end
open Classical
section
variable {E:Env} {N:Nat} {st:St} {a:Act} {w:World} {val:Nat->Value} {ow:Nat->Option Nat}
variable {P:Program} {o:Oper} {u:Unit} {st':St} {G:GG}
theorem Sim.takeAs (h:Sim E N st a w val ow) {t j:Nat} {q:List Nat} {k av:AV} {v:Value} (hk:a0c (st.s t) q=some k) (hj:N<=j) (htj:t≠j)
  (hav:∀ (u:Value) (F:BS) (Q:QR),a06 w (val t) q=some u->R w (Mo E w ow) k Q F u->R w (Mo E w ow) av noQ F v) :
  ∃ ow',Sim E N ((st.set t (a0h (st.s t) q .dead)).put j av) a w (a0u val j v) ow':=by
 obtain ⟨u,hu,Fk,G,f1,f2,f3,hr,fill⟩:=a32 q (h.slots t) hk
 refine ⟨fun b=>if Fk b then some j else if ow b=some j then some t else ow b,h.ghost (fun u=>u=t\/u=j) (fun s hs=>by simp [a0u]; omega) (fun b s hb=> ?_) (fun s hs=> ?_) (fun s q'=> ?_) (fun hq hM s hs=> ?_)⟩
 ·by_cases h1:Fk b
  ·exact ⟨t,f1 b h1⟩
  ·by_cases h2:ow b=some j
   ·exact ⟨j,h2⟩
   ·simp [h1,h2] at hb; exact ⟨s,hb⟩
 ·have h1:s≠t:=fun he=>hs (.inl he)
  have h2:s≠j:=fun he=>hs (.inr he)
  refine ⟨by simp [h1,h2],by simp [a0u,h2],fun b hb=> ?_⟩
  have e1:¬ Fk b:=fun hf=>by have:=f1 b hf; rw [hb] at this; injection this with e; exact h1 e
  have e2:ow b≠some j:=by rw [hb]; simpa using h2
  simp [e1,hb,h2]
 ·by_cases hs:s=j
  ·subst hs; exact Stab.put (v:=av) (by simp) (by simp [St.put_ep]) q'
  ·by_cases hst:s=t
   ·subst hst
    refine Stab.like (by simp [St.put_ep,hs]) (fun k' h1 h2=> ?_) (by simp [a0u,hs])
    simp only [St.put_s,St.set_s,hs,if_false,if_true] at h1
    exact a2t q hk (by simp [a0l]) h1 h2
   ·exact Stab.same (by simp [St.put_ep,hs]) (by simp [hs,hst]) (by simp [a0u,hs])
 ·by_cases hsj:s=j
  ·subst hsj
   simp only [St.put_s,if_true,a0u]
   exact a0t hM (fun _ _=>rfl) av (fun _ _ h=>h.elim) (fun b hb=>by simp [hb]) (fun _ _=>rfl) (hav u Fk _ hu hr)
  ·have:s=t:=hs.resolve_right hsj
   subst this
   simp only [St.put_s,St.set_s,hsj,if_false,if_true,a0u]
   refine a1l ?_ (fill _ .dead noB (QS w _ (a0u val j v)) hM (fun _ h=>h.elim) (by simp [R]))
   rintro x (hx | hx)
   ·exact hx.elim
   ·have e1:¬ Fk x:=fun hf=>f3 x hf hx
    have e2:ow x≠some j:=by rw [f2 x hx]; simpa using htj
    simp [e1,f2 x hx,htj]
theorem b1k (h:Sim E N st a w val ow) {x:X} (hx:okX N x=true) (hr:(b7q x N).run st=some (u,st')) :
  ∃ val' ow',Sim E N st' a w val' ow'/\Kept N N st st' val val'/\val' N=a.eval x.op:=by
 unfold b7q at hr
 obtain ⟨r,st1,h1,h2⟩:=a0a hr
 obtain ⟨rfl,hR,ht⟩:=a0i h hx h1
 obtain ⟨v,e⟩:=r
 simp only at h2 hR
 cases v<;>simp only [Ev.run_fail,reduceCtorEq] at h2
 case own sz n ks=>
  have lone:(∀ t,x≠ .t t)->(a2a N (.own sz n ks)).run st1=some (u,st')->∃ val' ow',Sim E N st' a w val' ow'/\Kept N N st1 st' val val'/\val' N=a.eval x.op:=fun hxt hs=>by
   have:=a0g hs
   subst this
   refine ⟨_,_,h.layp (Q:=noQ) (Nat.le_refl N) (fun _ _ h=>h.elim) (v:=a.eval x.op) ?_,⟨fun t ht=>by simp [a0u,ht],fun t _ ht=>by simp [ht]⟩,by simp [a0u]⟩
   have:=a1l (F':=noB) (fun b ⟨t,ht,_⟩=>absurd ht (hxt t)) hR
   simp only [R] at this ⊢
   exact this
  cases x with
  | t t=>
   simp only at h2
   obtain ⟨_,st2,h3,h4⟩:=a0a h2
   have:=a0g h3
   subst this
   have:=a0g h4
   subst this
   obtain ⟨h5,h6,h7⟩:=ht t rfl
   injection h5 with h5 _
   rw [a0y _ t (by simp [a0l])]
   refine ⟨_,_,h.pass (t:=t) (j:=N) (by omega) (av:= .own sz n ks) (v:=a.eval (X.t t).op) (fun hlt=>by omega) (fun Q hQ=> ?_),⟨fun u hu=>by simp [a0u,hu],fun u hu huj=> ?_⟩,by simp [a0u]⟩
   ·have:=h.slots t
    rw [<-h5,<-h7] at this
    simp only [R] at this ⊢
    exact this
   ·simp [huj,show u≠t by omega]
  | c v0=>exact lone (fun t he=>by cases he) h2
  | nl sz0=>exact lone (fun t he=>by cases he) h2
  | g n0=>exact lone (fun t he=>by cases he) h2
  | f n0=>exact lone (fun t he=>by cases he) h2
 case bor t q lo n e1=>
  obtain ⟨r2,st2,h3,h4⟩:=a0a h2
  obtain ⟨rfl,rfl⟩:=a09 h3
  obtain ⟨_,st3,h5,h6⟩:=a0a h4
  obtain ⟨h7,rfl⟩:=a0b h5
  obtain ⟨k,st4,h8,h9⟩:=a0a h6
  obtain ⟨hk,rfl⟩:=a0r h8
  simp only [Bool.and_eq_true,beq_iff_eq,decide_eq_true_eq] at h7
  obtain ⟨⟨he,hlo⟩,htN⟩:=h7
  simp only at hk
  cases k<;>simp only [Ev.run_fail,reduceCtorEq] at h9
  case own sz n0 ks=>
   obtain ⟨_,st5,g1,g2⟩:=a0a h9
   obtain ⟨g3,rfl⟩:=a0b g1
   have hn:n<=n0:=by simpa using g3
   obtain ⟨_,st6,g4,g5⟩:=a0a g2
   have:=a1c g4
   subst this
   have:=a0g g5
   subst this
   simp only [R,QS] at hR
   subst hlo
   obtain ⟨a0,c0,hv0,hvx⟩:=hR.2.1 he sz n0 ks hk (by omega)
   have hvx':a.eval x.op= .slice a0 n c0:=by
    rw [hvx,Nat.zero_mul,a00]; simp
   obtain ⟨ow',hs⟩:=h.takeAs (j:=N) (av:= .own sz n (ks.take (n*sz))) (v:=a.eval x.op) hk (Nat.le_refl N) (by omega) (fun u F Q hu hru=>by
    rw [hv0] at hu
    injection hu with hu
    rw [hvx']
    rw [<-hu] at hru
    exact a9j hru hn)
   refine ⟨_,ow',hs,⟨fun u hu=>by simp [a0u,hu],fun u hu huj=> ?_⟩,by simp [a0u]⟩
   simp [huj,show u≠t by omega]
theorem b9l (h:Sim E N st a w val ow) {y:X} (hx:okX N y=true) (hr:(d0a y N).run st=some (u,st')) :
  ∃ val' ow',Sim E N st' a w val' ow'/\Kept N (N+1) st st' val val'/\val' (N+1)=a.eval y.op:=by
 unfold d0a at hr
 obtain ⟨r,st1,h1,h2⟩:=a0a hr
 obtain ⟨rfl,hR,ht⟩:=a0i h hx h1
 obtain ⟨v,e⟩:=r
 simp only at h2 hR
 cases v<;>simp only [Ev.run_fail,reduceCtorEq] at h2
 case own sz n ks=>
  have lone:(∀ t,y≠ .t t)->(a2a (N+1) (.own sz n ks)).run st1=some (u,st')->∃ val' ow',Sim E N st' a w val' ow'/\Kept N (N+1) st1 st' val val'/\val' (N+1)=a.eval y.op:=fun hxt hs=>by
   have:=a0g hs
   subst this
   refine ⟨_,_,h.layp (j:=N+1) (Q:=noQ) (by omega) (fun _ _ h=>h.elim) (v:=a.eval y.op) ?_,⟨fun t ht=>by simp [a0u,ht],fun t _ ht=>by simp [ht]⟩,by simp [a0u]⟩
   have:=a1l (F':=noB) (fun b ⟨t,ht,_⟩=>absurd ht (hxt t)) hR
   simp only [R] at this ⊢
   exact this
  cases y with
  | t t=>
   simp only at h2
   obtain ⟨_,st2,h3,h4⟩:=a0a h2
   have:=a0g h3
   subst this
   have:=a0g h4
   subst this
   obtain ⟨h5,h6,h7⟩:=ht t rfl
   injection h5 with h5 _
   rw [a0y _ t (by simp [a0l])]
   refine ⟨_,_,h.pass (t:=t) (j:=N+1) (by omega) (av:= .own sz n ks) (v:=a.eval (X.t t).op) (fun hlt=>by omega) (fun Q hQ=> ?_),⟨fun u hu=>by simp [a0u,hu],fun u hu huj=> ?_⟩,by simp [a0u]⟩
   ·have:=h.slots t
    rw [<-h5,<-h7] at this
    simp only [R] at this ⊢
    exact this
   ·simp [huj,show u≠t by omega]
  | c v0=>exact lone (fun t he=>by cases he) h2
  | nl sz0=>exact lone (fun t he=>by cases he) h2
  | g n0=>exact lone (fun t he=>by cases he) h2
  | f n0=>exact lone (fun t he=>by cases he) h2
 case sl n ks=>
  have:=a0g h2
  subst this
  rw [a0y _ _ (by simp [a0l])]
  refine ⟨_,_,h.layd (j:=N+1) (Q:=noQ) (v:=a.eval y.op) (av:= .sl n ks) (fun hlt=>by omega) (fun _ _ h=>h.elim) (by simp only [R] at hR ⊢; exact hR) (by simp [a0l]),⟨fun t ht=>by simp [a0u,ht],fun t _ ht=>by simp [ht]⟩,by simp [a0u]⟩
 case bor t q lo n e1=>
  obtain ⟨r2,st2,h3,h4⟩:=a0a h2
  obtain ⟨rfl,rfl⟩:=a09 h3
  obtain ⟨_,st3,h5,h6⟩:=a0a h4
  obtain ⟨h7,rfl⟩:=a0b h5
  obtain ⟨k,st4,h8,h9⟩:=a0a h6
  obtain ⟨hk,rfl⟩:=a0r h8
  simp only [Bool.and_eq_true,beq_iff_eq,decide_eq_true_eq] at h7
  obtain ⟨he,htN⟩:=h7
  simp only at hk
  cases k<;>simp only [Ev.run_fail,reduceCtorEq] at h9
  case own sz n0 ks=>
   obtain ⟨_,st5,g1,g2⟩:=a0a h9
   obtain ⟨g3,rfl⟩:=a0b g1
   have hlo:lo+n<=n0:=by simpa using g3
   obtain ⟨_,st6,g4,g5⟩:=a0a g2
   have:=a1c g4
   subst this
   have:=a0g g5
   subst this
   simp only [R,QS] at hR
   obtain ⟨a0,c0,hv0,hvx⟩:=hR.2.1 he sz n0 ks hk hlo
   obtain ⟨ow',hf⟩:=h.freezeNode hk
   have hnode:=a02 q (k':=frz (.own sz n0 ks)) hk
   obtain ⟨u1,hu1,Fk,G,_,_,_,hr1,_⟩:=a32 q (by have:=hf.slots t; simp only [St.set_s,if_true] at this; exact this) hnode
   rw [hv0] at hu1
   injection hu1 with hu1
   have hlen:ks.length=n0*sz:=by
    obtain ⟨u2,hu2,Fk2,G2,_,_,_,hr2,_⟩:=a32 q (h.slots t) hk
    exact a3d hr2
   subst hu1
   have hsub:=a6c (w:=w) (M:=Mo E w ow') (lo:=lo) (n:=n) (sz:=sz) (ks:=a1b ks) (n0:=n0) (a0:=a0) (c0:=c0) (Q:=_) (F:=Fk) (by rw [frz] at hr1; exact hr1) (by rw [a10,hlen]) hlo
   rw [<-hvx] at hsub
   rw [a0y _ _ (by simp [a0l])]
   refine ⟨_,_,hf.layd (j:=N+1) (Q:=noQ) (v:=a.eval y.op) (fun hlt=>by omega) (fun _ _ h=>h.elim) hsub (by simp [a0l]),⟨fun t ht=>by simp [a0u,ht],fun u hu huj=> ?_⟩,by simp [a0u]⟩
   simp [huj,show u≠t by omega]
theorem b9v (h:Sim E N st a w val ow) {T e:TypeId} {sz by_:Nat} {x y:X} (ho:o.op= .call { callee:= .builtin .append,args:=#[x.op,y.op],argTypes:=#[T,T] }) (hd:∀ d,o.dst=some d->d < N) (hok:a3m P N (.app T e sz by_ x y)=true)
  (hr:(a0w G N o.dst (.app T e sz by_ x y)).run st=some (u,st')):Done E N P o a w st':=by
 simp only [a3m,Bool.and_eq_true] at hok
 obtain ⟨⟨⟨⟨⟨⟨hx,hy⟩,hT⟩,hs⟩,hb⟩,hz⟩,hpos⟩:=hok
 have hT:=a8k hT
 obtain ⟨inf,hi,hsize⟩:=a2m hs
 have hby:inf.bytes=by_:=by simpa [b7z,hi] using hb
 obtain ⟨z,hz0,hzs⟩:∃ z,inf.zero=some z/\z.cells.size=sz:=by
  simp only [b5y,hi] at hz
  split at hz
  ·rename_i z hz0; exact ⟨z,hz0,by simpa using hz⟩
  ·cases hz
 have hpos:0 < sz:=by simpa using hpos
 simp only [a0w] at hr
 obtain ⟨_,st1,h1,h2⟩:=a0a hr
 obtain ⟨val1,ow1,hs1,hk1,hv1⟩:=b1k h hx h1
 obtain ⟨_,st2,h3,h4⟩:=a0a h2
 obtain ⟨val2,ow2,hs2,hk2,hv2⟩:=b9l hs1 hy h3
 obtain ⟨s1,st3,h5,h6⟩:=a0a h4
 obtain ⟨rfl,rfl⟩:=a9l h5
 obtain ⟨s2,st4,h7,h8⟩:=a0a h6
 obtain ⟨rfl,rfl⟩:=a9l h7
 have hvN:val2 N=a.eval x.op:=by rw [hk2.val N (by omega),hv1]
 have fin:∀ (n m:Nat) (xs ys:List AV),st4.s N= .own sz n xs->(st4.s (N+1)= .own sz m ys\/(st4.s (N+1)= .sl m ys/\ys.length=m*sz))->n+m<=140737488355328->(n+m)*by_<=140737488355328->
   (do a2a (N+1) .dead; a26 N o.dst (.own sz (n+m) (xs++ys)):Ev Unit).run st4=some (u,st')->Done E N P o a w st':=by
  intro n m xs ys e1 e2 e3 e4 hs
  obtain ⟨_,st5,g1,g2⟩:=a0a hs
  have:=a0g g1
  subst this
  obtain ⟨v',w',hrun0,ow',hfin⟩:=hs2.append (P:=P) (ty:=o.type) (Nat.le_refl N) (by omega:N<=N+1) (by omega) e1 e2 hT hi hz0 hsize hzs hpos (by simp only [maxLen]; omega) (by rw [hby]; exact e4)
  rw [hvN,hv2] at hrun0
  have hrun:(execOp a.eval o).run P w= .ok (.value v') w':=by
   simp only [execOp,ho,resolve,invoke,builtin,List.map_toArray,List.map_cons,List.map_nil,Sem.run_bind,Sem.run_pure,Result.andThen_ok]
   rw [hrun0]; rfl
  rw [a0y _ (N+1) (by simp [a0l])] at g2
  exact Done.thru hd hrun hfin (by simp [a0u]) g2
 split at h8
 ·rename_i sz1 n xs sz2 m ys e1 e2
  obtain ⟨_,st5,g1,g2⟩:=a0a h8
  obtain ⟨hg,rfl⟩:=a0b g1
  simp only [Bool.and_eq_true,beq_iff_eq,decide_eq_true_eq] at hg
  obtain ⟨⟨⟨rfl,rfl⟩,hg3⟩,hg4⟩:=hg
  exact fin n m xs ys e1 (.inl e2) hg4 hg3 g2
 ·rename_i sz1 n xs m ys e1 e2
  obtain ⟨_,st5,g1,g2⟩:=a0a h8
  obtain ⟨hg,rfl⟩:=a0b g1
  simp only [Bool.and_eq_true,beq_iff_eq,decide_eq_true_eq] at hg
  obtain ⟨⟨⟨rfl,hg2⟩,hg3⟩,hg4⟩:=hg
  exact fin n m xs ys e1 (.inr ⟨e2,hg2⟩) hg4 hg3 g2
 ·simp [Ev.run] at h8
end
open Classical
theorem b77 {w:World} {M:BS}:∀ {ks:List AV} {ns:List Int} {Q:QR} {F:BS} {vs:List Value},a5z ks=some ns->RL w M ks Q F vs->vs=ns.map (Value.int .u8)
 | [],ns,Q,F,vs,h,hr=>by
  simp only [a5z,Option.some.injEq] at h
  simp only [RL] at hr
  subst h hr; rfl
 | k::ks,ns,Q,F,vs,h,hr=>by
  unfold a5z at h
  split at h
  ·rename_i heq; cases heq
  ·rename_i n ks' heq
   injection heq with e1 e2
   subst e1 e2
   cases h1:a5z ks with
   | none=>simp [h1] at h
   | some ms=>
    simp only [h1,Option.map_some,Option.some.injEq] at h
    subst h
    simp only [RL,R] at hr
    obtain ⟨v,vs',rfl,F1,F2,_,_,_,rfl,hrs⟩:=hr
    rw [b77 h1 hrs]; rfl
  ·cases h
theorem b2o:∀ {ks:List AV} {ns:List Int},a5z ks=some ns->a5z (a1b ks)=some ns
 | [],ns,h=>by simpa [a1b] using h
 | k::ks,ns,h=>by
  unfold a5z at h
  split at h
  ·rename_i heq; cases heq
  ·rename_i n ks' heq
   injection heq with e1 e2
   subst e1 e2
   cases h1:a5z ks with
   | none=>simp [h1] at h
   | some ms=>
    simp only [h1,Option.map_some] at h
    simp only [a1b,frz,a5z,b2o h1,Option.map_some]
    exact h
  ·cases h
section
variable {E:Env} {N:Nat} {st:St} {a:Act} {w:World} {val:Nat->Value} {ow:Nat->Option Nat}
variable {P:Program} {o:Oper} {u:Unit} {st':St} {G:GG}
theorem b2y {M:BS} {Q:QR} {F:BS} {n:Nat} {ks:List AV} {v:Value} {s:ByteArray} (h:R w M (.sl n ks) Q F v) (hl:ks.length=n) (hs:bytesOf ks=some s):∃ ad c,v= .slice ad n c/\(Conv.bytesToString v).run P w= .ok (.string s) w:=by
 simp only [R] at h
 obtain ⟨ad,c,hv,hc,vs,h1,hr,h2⟩:=h
 refine ⟨ad,c,hv,?_⟩
 unfold bytesOf at hs
 cases hi:a5z ks with
 | none=>simp [hi] at hs
 | some ns=>
  simp only [hi,Option.map_some,Option.some.injEq] at hs
  have hvs:=b77 hi hr
  have hlen:=a0m hr
  subst hv
  rcases h2 with h2 | ⟨b,o1,ha,hM,hcell⟩
  ·rw [h2] at hlen
   have hn:n=0:=by simp at hlen; omega
   subst hn
   have hns:ns=[]:=by rw [h2] at hvs; simpa using hvs.symm
   subst hns
   cases ad with
   | none=>simp [Conv.bytesToString]; simpa using hs
   | some ad=>
    rw [run_bytesToString w ad 0 c [] (by simp [loadCells,loadCellsFrom]),hs]
  ·subst ha
   have hll:(loadCells ⟨b,o1,none⟩ n).run P w= .ok (ns.map (Value.int .u8)).toArray w:=by
    have:=run_loadCells_list (P:=P) (w:=w) ⟨b,o1,none⟩ vs (fun j u hu=>by rw [a1u]; exact hcell j u hu)
    rw [hlen,hl] at this
    rw [this,hvs]
   rw [run_bytesToString w _ n c ns hll,hs]
theorem e2y (h:Sim E N st a w val ow) {x:X} (hx:okX N x=true) {t lo n sz n0:Nat} {q:List Nat} {ks:List AV} {st1:St} (hb:(a5x x).run st=some ((t,q,lo,n),st1)) (hk:a0c (st.s t) q=some (.own sz n0 ks)) (hlo:lo+n<=n0) :
  ks.length=n0*sz/\∃ ow' Q,R w (Mo E w ow') (.sl n (((a1b ks).drop (lo*sz)).take (n*sz))) Q noB (a.eval x.op):=by
 obtain ⟨_,hb⟩:=a3q h hx hb
 obtain ⟨a0,c0,hv0,hvx⟩:=hb sz n0 ks hk hlo
 obtain ⟨ow',hf⟩:=h.freezeNode hk
 have hnode:=a02 q (k':=frz (.own sz n0 ks)) hk
 obtain ⟨u1,hu1,Fk,G,_,_,_,hr1,_⟩:=a32 q (by have:=hf.slots t; simp only [St.set_s,if_true] at this; exact this) hnode
 rw [hv0] at hu1
 injection hu1 with hu1
 have hlen:ks.length=n0*sz:=by
  obtain ⟨u2,hu2,Fk2,G2,_,_,_,hr2,_⟩:=a32 q (h.slots t) hk
  exact a3d hr2
 subst hu1
 have hsub:=a6c (w:=w) (M:=Mo E w ow') (lo:=lo) (n:=n) (sz:=sz) (ks:=a1b ks) (n0:=n0) (a0:=a0) (c0:=c0) (Q:=_) (F:=Fk) (by rw [frz] at hr1; exact hr1) (by rw [a10,hlen]) hlo
 rw [<-hvx] at hsub
 exact ⟨hlen,ow',noQ,hsub⟩
theorem b3d (h:Sim E N st a w val ow) {s d:TypeId} {x:X} (ho:o.op= .convert s d x.op) (hd:∀ d,o.dst=some d->d < N) (hok:a3m P N (.conv s d .str x)=true)
  (hr:(a0w G N o.dst (.conv s d .str x)).run st=some (u,st')):Done E N P o a w st':=by
 simp only [a3m,Bool.and_eq_true] at hok
 obtain ⟨hx,hk⟩:=hok
 obtain ⟨e,hs,he,hdu⟩:∃ e,P.underlying s=some (.slice e)/\P.underlying e=some (.int .u8)/\P.underlying d=some .string:=by
  split at hk
  ·rename_i e h1 h2
   split at hk
   ·rename_i h3; exact ⟨e,h1,h3,h2⟩
   ·cases hk
  ·cases hk
 have hrun:∀ (v:Value) (ad:Option Addr) (n c:Nat) (str:ByteArray),a.eval x.op=v->v= .slice ad n c->(Conv.bytesToString v).run P w= .ok (.string str) w->(execOp a.eval o).run P w= .ok (.value (.string str)) w:=fun v ad n c str hv hv2 hb=>by
  simp only [execOp,ho,hv]
  refine a3c ?_
  subst hv2
  rw [run_convert_bytes_string w s d e _ n c hs he hdu,hb]
 simp only [a0w] at hr
 obtain ⟨⟨v,ee⟩,st1,h1,h2⟩:=a0a hr
 obtain ⟨rfl,hR,ht⟩:=a0i h hx h1
 simp only at h2 hR
 split at h2
 ·rename_i n ks
  obtain ⟨_,st2,h3,h4⟩:=a0a h2
  obtain ⟨hl,rfl⟩:=a0b h3
  have hl:ks.length=n:=by simpa using hl
  obtain ⟨str,st3,h5,h6⟩:=a0a h4
  obtain ⟨hs',rfl⟩:=a0r h5
  obtain ⟨d0,hd0,rfl⟩:=a0e h6
  obtain ⟨ad,c,hv,hb⟩:=b2y (P:=P) hR hl hs'
  exact Done.of_fin hd0 (hd d0 hd0) (hrun _ ad n c str rfl hv hb) h (by simp only [R]) rfl
 ·obtain ⟨⟨t,q,lo,n⟩,st2,h3,h4⟩:=a0a h2
  obtain ⟨rfl,_⟩:=a3q h hx h3
  obtain ⟨r,st3,h5,h6⟩:=a0a h4
  obtain ⟨rfl,rfl⟩:=a09 h5
  obtain ⟨k,st4,h7,h8⟩:=a0a h6
  obtain ⟨hk,rfl⟩:=a0r h7
  simp only at hk h8
  split at h8
  ·rename_i sz n0 ks
   obtain ⟨_,st5,h9,h10⟩:=a0a h8
   obtain ⟨hg,rfl⟩:=a0b h9
   simp only [Bool.and_eq_true,beq_iff_eq,decide_eq_true_eq] at hg
   obtain ⟨hsz,hlo⟩:=hg
   subst hsz
   obtain ⟨str,st6,h11,h12⟩:=a0a h10
   obtain ⟨hs',rfl⟩:=a0r h11
   obtain ⟨d0,hd0,rfl⟩:=a0e h12
   obtain ⟨hlen,ow',Q',hsl⟩:=e2y h hx h3 hk hlo
   simp only [Nat.mul_one] at hsl hlen
   have hs2:bytesOf (((a1b ks).drop lo).take n)=some str:=by
    have e:((a1b ks).drop lo).take n=a1b ((ks.drop lo).take n):=by simp [b6t]
    rw [e]
    unfold bytesOf at hs' ⊢
    cases hi:a5z ((ks.drop lo).take n) with
    | none=>simp [hi] at hs'
    | some ns=>rw [b2o hi]; rw [hi] at hs'; exact hs'
   obtain ⟨ad,c,hv,hb⟩:=b2y (P:=P) hsl (by rw [List.length_take,List.length_drop,a10]; omega) hs2
   exact Done.of_fin hd0 (hd d0 hd0) (hrun _ ad n c str rfl hv hb) h (by simp only [R]) rfl
  ·simp [Ev.run] at h8
theorem a2k (h:Sim E N st a w val ow) {x:Option X} (hx:x.all (okX N)=true) {dflt n:Int} {st':St} (hr:(a2i x dflt).run st=some (n,st')):st'=st/\((x=none/\n=dflt)\/∃ y k,x=some y/\a.eval y.op= .int k n):=by
 cases x with
 | none=>simp only [a2i,Ev.run_pure,Option.some.injEq,Prod.mk.injEq] at hr; exact ⟨hr.2.symm,.inl ⟨rfl,hr.1.symm⟩⟩
 | some y=>
  simp only [a2i] at hr
  obtain ⟨rfl,k,hk⟩:=a3r h (by simpa using hx) hr
  exact ⟨rfl,.inr ⟨y,k,rfl,hk⟩⟩
theorem a2v {k:IntKind} {n:Int} {y:Nat} {c:BoundsCode} (h0:0<=n) (h1:n<=y):(Instr.sliceBound (.int k n) y c).run P w= .ok n.toNat w:=by
 have hc:0<=n/\n<=(y:Int):=⟨h0,h1⟩
 simp [Instr.sliceBound,asIntOf,hc]
theorem b2x {isS:Bool} {len cap:Nat} {lo hi:Option X} {l h:Int} (hlo:(lo=none/\l=0)\/∃ y k,lo=some y/\a.eval y.op= .int k l) (hhi:(hi=none/\h=len)\/∃ y k,hi=some y/\a.eval y.op= .int k h)
  (h0:0<=l) (h1:l<=h) (h2:h<=len) (h3:len<=cap) :
  (Instr.sliceBounds isS len cap ((opX lo).map a.eval) ((opX hi).map a.eval) none).run P w= .ok (l.toNat,h.toNat,cap) w:=by
 have hhc:h<=(cap:Int):=by omega
 have hlh:l<=(h.toNat:Int):=by omega
 unfold Instr.sliceBounds
 rcases hlo with ⟨rfl,rfl⟩ | ⟨y,k,rfl,hy⟩<;>rcases hhi with ⟨rfl,rfl⟩ | ⟨y2,k2,rfl,hy2⟩
 ·simp [opX]
 ·simp [opX,hy2,a2v (P:=P) (w:=w) (k:=k2) (Int.le_trans h0 h1) hhc]
 ·have hll:l<=((len:Int).toNat:Int):=hlh
  simp at hll
  simp [opX,hy,a2v (P:=P) (w:=w) (k:=k) h0 hll]
 ·simp [opX,hy,hy2,a2v (P:=P) (w:=w) (k:=k2) (Int.le_trans h0 h1) hhc,a2v (P:=P) (w:=w) (k:=k) h0 hlh]
theorem b7o (h:Sim E N st a w val ow) {T sz:Nat} {x:X} {lo hi mx:Option X} (ho:o.op= .slice T x.op (opX lo) (opX hi) (opX mx)) (hd:∀ d,o.dst=some d->d < N) (hok:a3m P N (.slice T sz x lo hi mx)=true)
  (hr:(a0w G N o.dst (.slice T sz x lo hi mx)).run st=some (u,st')):Done E N P o a w st':=by
 simp only [a3m,Bool.and_eq_true] at hok
 obtain ⟨⟨⟨⟨hx,hlo⟩,hhi⟩,hmx⟩,hT⟩:=hok
 have hrunS:∀ (ad:Option Addr) (n c:Nat) (l hh:Int),mx=none->a.eval x.op= .slice ad n c->n<=c->((lo=none/\l=0)\/∃ y k,lo=some y/\a.eval y.op= .int k l)->((hi=none/\hh=n)\/∃ y k,hi=some y/\a.eval y.op= .int k hh)->
   0<=l->l<=hh->hh<=n->0 < sz->(execOp a.eval o).run P w= .ok (.value (.slice (if c=l.toNat then ad else ad.map (·.add (l.toNat*sz))) (hh.toNat - l.toNat) (c - l.toNat))) w:=by
  intro ad n c l hh hm hv hnc e1 e2 h0 h1 h2 hns
  have hb:=b2x (P:=P) (w:=w) (isS:=true) (cap:=c) e1 e2 h0 h1 h2 hnc
  subst hm
  simp only [execOp,ho,hv]
  refine a3c ?_
  cases hu:P.underlying T with
  | none=>simp [hu] at hT
  | some tt=>
   cases tt<;>simp [hu] at hT
   case string=>omega
   rename_i e
   obtain ⟨inf,hinf,hsize⟩:=a2m hT.1
   have hsz:(sizeOf e).run P w= .ok sz w:=by simp [sizeOf,typeInfo,hinf,hsize]
   have hon:Option.map a.eval (opX none)=none:=rfl
   simp [Instr.sliceAt,Instr.slice,run_underlying hu,hon,hb,hsz]
 have hrun0:∀ (ad:Option Addr) (n c:Nat) (y:X) (l hh m:Int),mx=some y->(∃ k,a.eval y.op= .int k m)->a.eval x.op= .slice ad n c->((lo=none/\l=0)\/∃ y k,lo=some y/\a.eval y.op= .int k l)->(∃ y k,hi=some y/\a.eval y.op= .int k hh)->
   l=0->hh=0->m=0->0 < sz->(execOp a.eval o).run P w= .ok (.value (.slice ad 0 0)) w:=by
  intro ad n c y l hh m hm ⟨km,hkm⟩ hv e1 ⟨y2,k2,e2,e3⟩ h0 h1 h2 hns
  subst hm h0 h1 h2 e2
  simp only [execOp,ho,hv]
  refine a3c ?_
  cases hu:P.underlying T with
  | none=>simp [hu] at hT
  | some tt=>
   cases tt<;>simp [hu] at hT
   case string=>omega
   rename_i e
   obtain ⟨inf,hinf,hsize⟩:=a2m hT.1
   have hsz:(sizeOf e).run P w= .ok sz w:=by simp [sizeOf,typeInfo,hinf,hsize]
   have b0:∀ (k:IntKind) (y:Nat) (c:BoundsCode),(Instr.sliceBound (.int k 0) y c).run P w= .ok 0 w:=fun k y c=>a2v (Int.le_refl 0) (by omega)
   rcases e1 with ⟨rfl,_⟩ | ⟨y3,k3,rfl,e4⟩
   ·simp [Instr.sliceAt,Instr.slice,run_underlying hu,opX,Instr.sliceBounds,hkm,e3,b0,hsz]
   ·simp [Instr.sliceAt,Instr.slice,run_underlying hu,opX,Instr.sliceBounds,hkm,e3,e4,b0,hsz]
 have hown0:∀ (ad:Option Addr) {w':World} {st1:St} {val1:Nat->Value} {ow1:Nat->Option Nat},Sim E N st1 a w' val1 ow1->(execOp a.eval o).run P w= .ok (.value (.slice ad 0 0)) w'->(a26 N o.dst (.own sz 0 [])).run st1=some (u,st')->Done E N P o a w st':=by
  intro ad w' st1 val1 ow1 hs hrun hth
  exact Done.thru hd hrun (hs.layp (j:=N) (v:= .slice ad 0 0) (Q:=noQ) (Nat.le_refl N) (fun _ _ h=>h.elim) (by simp only [R]; exact .inl ⟨trivial,by simp [RL],_,rfl⟩)) (by simp [a0u]) hth
 simp only [a0w] at hr
 obtain ⟨⟨v,ee⟩,st1,h1,h2⟩:=a0a hr
 obtain ⟨rfl,hR,ht⟩:=a0i h hx h1
 simp only at h2 hR
 split at h2
 ·rename_i s
  obtain ⟨l,st2,h3,h4⟩:=a0a h2
  obtain ⟨rfl,e1⟩:=a2k h hlo h3
  obtain ⟨hh,st3,h5,h6⟩:=a0a h4
  obtain ⟨rfl,e2⟩:=a2k h hhi h5
  obtain ⟨_,st4,h7,h8⟩:=a0a h6
  obtain ⟨hg,rfl⟩:=a0b h7
  simp only [Bool.and_eq_true,decide_eq_true_eq,beq_iff_eq] at hg
  obtain ⟨⟨⟨⟨g1,g2⟩,g3⟩,g4⟩,g5⟩:=hg
  obtain ⟨d0,hd0,rfl⟩:=a0e h8
  simp only [R] at hR
  have hmn:mx=none:=by cases mx<;>simp_all
  subst hmn
  have hb:=b2x (P:=P) (w:=w) (isS:=false) (cap:=s.size) e1 e2 g1 g2 g3 (Nat.le_refl _)
  have hrun:(execOp a.eval o).run P w= .ok (.value (.string (s.extract l.toNat hh.toNat))) w:=by
   simp only [execOp,ho,hR]
   refine a3c ?_
   cases hu:P.underlying T with
   | none=>simp [hu] at hT
   | some tt=>
    have hon:Option.map a.eval (opX none)=none:=rfl
    cases tt<;>simp [hu] at hT
    ·simp [Instr.sliceAt,Instr.slice,run_underlying hu,hon,hb]
    ·omega
  exact Done.of_fin hd0 (hd d0 hd0) hrun h (by simp only [R]) rfl
 ·rename_i n ks
  obtain ⟨_,st0,h3,h4⟩:=a0a h2
  obtain ⟨hpos,rfl⟩:=a0b h3
  have hpos:0 < sz:=by simpa using hpos
  obtain ⟨l,st2,h5,h6⟩:=a0a h4
  obtain ⟨rfl,e1⟩:=a2k h hlo h5
  obtain ⟨hh,st3,h7,h8⟩:=a0a h6
  obtain ⟨rfl,e2⟩:=a2k h hhi h7
  have hR0:=hR
  simp only [R] at hR
  obtain ⟨ad,c,hv,hnc,_⟩:=hR
  split at h8
  ·obtain ⟨_,st4,h9,h10⟩:=a0a h8
   obtain ⟨hg,rfl⟩:=a0b h9
   simp only [Bool.and_eq_true,decide_eq_true_eq] at hg
   obtain ⟨⟨⟨g1,g2⟩,g3⟩,g4⟩:=hg
   obtain ⟨d0,hd0,rfl⟩:=a0e h10
   have hrun:=hrunS ad n c l hh rfl hv hnc e1 e2 g1 g2 g3 hpos
   rw [hv] at hR0
   have hsub:=a6c (lo:=l.toNat) (n:=(hh - l).toNat) hR0 g4 (by omega)
   refine Done.of_fin hd0 (hd d0 hd0) hrun h ?_ rfl
   rw [show hh.toNat - l.toNat=(hh - l).toNat by omega]
   exact a0t (fun _ h=>h) (fun _ _=>rfl) _ (fun _ _ h=>h.elim) (fun _ h=>h) (fun _ _=>rfl) hsub
  ·rename_i m
   obtain ⟨m',st4,h9,h10⟩:=a0a h8
   obtain ⟨rfl,km,hm⟩:=a3r h (by simpa using hmx) h9
   obtain ⟨_,st5,h11,h12⟩:=a0a h10
   obtain ⟨hg,rfl⟩:=a0b h11
   simp only [Bool.and_eq_true,beq_iff_eq] at hg
   obtain ⟨⟨⟨g1,g2⟩,g3⟩,g4⟩:=hg
   have e2':∃ y k,hi=some y/\a.eval y.op= .int k hh:=by
    rcases e2 with ⟨rfl,_⟩ | e2
    ·cases g4
    ·exact e2
   exact hown0 ad h (hrun0 ad n c m l hh m' rfl ⟨km,hm⟩ hv e1 e2' g1 g2 g3 hpos) h12
 ·obtain ⟨_,st0,h3,h4⟩:=a0a h2
  obtain ⟨hpos,rfl⟩:=a0b h3
  have hpos:0 < sz:=by simpa using hpos
  obtain ⟨⟨t,q,lo0,n⟩,st2,h5,h6⟩:=a0a h4
  obtain ⟨rfl,_⟩:=a3q h hx h5
  obtain ⟨r,st3,h7,h8⟩:=a0a h6
  obtain ⟨rfl,rfl⟩:=a09 h7
  obtain ⟨k,st4,h9,h10⟩:=a0a h8
  obtain ⟨hk,rfl⟩:=a0r h9
  simp only at hk h10
  split at h10
  ·rename_i sz' n0 ks
   obtain ⟨l,st5,h11,h12⟩:=a0a h10
   obtain ⟨rfl,e1⟩:=a2k h hlo h11
   obtain ⟨hh,st6,h13,h14⟩:=a0a h12
   obtain ⟨rfl,e2⟩:=a2k h hhi h13
   obtain ⟨_,st7,h15,h16⟩:=a0a h14
   obtain ⟨hg,rfl⟩:=a0b h15
   simp only [Bool.and_eq_true,Bool.or_eq_true,decide_eq_true_eq,beq_iff_eq] at hg
   obtain ⟨⟨⟨⟨⟨g1,g2⟩,g3⟩,g4⟩,g5⟩,g6⟩:=hg
   subst g5
   obtain ⟨a0,c0,f1,f2,f3,hv⟩:=b0m h hx h5 hk g4
   split at h16
   ·obtain ⟨d0,hd0,rfl⟩:=a0e h16
    have hrun:=hrunS _ n _ l hh rfl hv (by omega) e1 e2 g1 g2 g3 hpos
    refine Done.of_fin hd0 (hd d0 hd0) hrun h ?_ rfl
    simp only [R,QS]
    refine ⟨Nat.le_refl _,fun _ sz2 n2 ks2 hk2 hle2=> ?_,fun _ keys vals hk2=>by rw [hk] at hk2; cases hk2⟩
    rw [hk] at hk2
    injection hk2 with hk2
    injection hk2 with q1 q2 q3
    subst q1 q2 q3
    refine ⟨a0,c0,f1,?_⟩
    have hl2:l.toNat<=hh.toNat:=by omega
    have hln:hh.toNat<=n:=by omega
    rw [show hh.toNat - l.toNat=(hh - l).toNat by omega,show c0 - lo0 - l.toNat=c0 - (lo0+l.toNat) by omega]
    congr 1
    by_cases hlo0:lo0=0
    ·subst hlo0
     have:(if c0=0 then a0 else a0.map (·.add (0*sz')))=a0:=by rw [Nat.zero_mul,a00]; simp
     rw [this,Nat.zero_add,Nat.sub_zero]
    ·by_cases hl0:l.toNat=0
     ·rw [hl0,Nat.add_zero,Nat.zero_mul,a00]
      simp
     ·have hlt:l < hh:=by
       rcases g6 with (g6 | g6) | g6
       ·exact absurd g6 hlo0
       ·omega
       ·exact g6
      have q1:c0≠lo0:=by omega
      have q2:c0 - lo0≠l.toNat:=by omega
      have q3:c0≠lo0+l.toNat:=by omega
      simp only [q1,q2,q3,if_false,Option.map_map]
      obtain ⟨b,rfl⟩:=f3 (by omega)
      simp only [Option.map_some,Function.comp,a1u,Nat.add_mul]
      congr 2
      omega
   ·rename_i m
    obtain ⟨m',st8,h17,h18⟩:=a0a h16
    obtain ⟨rfl,km,hm⟩:=a3r h (by simpa using hmx) h17
    obtain ⟨_,st9,h19,h20⟩:=a0a h18
    obtain ⟨hg,rfl⟩:=a0b h19
    simp only [Bool.and_eq_true,beq_iff_eq] at hg
    obtain ⟨⟨⟨q1,q2⟩,q3⟩,q4⟩:=hg
    have e2':∃ y k,hi=some y/\a.eval y.op= .int k hh:=by
     rcases e2 with ⟨rfl,_⟩ | e2
     ·cases q4
     ·exact e2
    exact hown0 _ h (hrun0 _ n _ m l hh m' rfl ⟨km,hm⟩ hv e1 e2' q1 q2 q3 hpos) h20
  ·simp [Ev.run] at h10
end
theorem a6r {w w':World} (h:∀ a,w'.cell? a=w.cell? a):∀ (q:List Nat) (v:Value),a06 w' v q=a06 w v q
 | [],v=>rfl
 | i::q,v=>by
  simp only [a06]
  cases a8f v with
  | none=>rfl
  | some b=>
   simp only [h]
   cases w.cell? ⟨b,i,none⟩ with
   | none=>rfl
   | some k=>exact a6r h q k
section
variable {E:Env} {N:Nat} {st:St} {a:Act} {w:World} {val:Nat->Value} {ow:Nat->Option Nat}
variable {P:Program} {o:Oper} {u:Unit} {st':St} {G:GG}
theorem Sim.refreeze (h:Sim E N st a w val ow) {j sz n b c:Nat} {ks:List AV} {cur:Array Value} {T:TypeId} {fz fz':Nat×Nat} (hs:st.s j= .own sz n ks) (hv:val j= .slice (some ⟨b,0,none⟩) n c) (hn:0 < n) (hb:ow b=some j) (hh:w.heap[b]? =some (.cells cur T fz))
  (hz:b1q fz cur.size->b1q fz' cur.size) {w':World} (e1:w'.heap=w.heap.setIfInBounds b (.cells cur T fz')) (e2:w'.os=w.os) (e3:w'.tape=w.tape) (e4:w'.output=w.output):Sim E N st a w' val ow:=by
 have hlt:=h.lt b j hb
 have hsame:∀ x,x≠b->w'.heap[x]? =w.heap[x]? :=fun x hx=>by rw [e1,Array.getElem?_setIfInBounds_ne (Ne.symm hx)]
 have hat:w'.heap[b]? =some (.cells cur T fz'):=by rw [e1,Array.getElem?_setIfInBounds_self_of_lt hlt]
 have hcell:∀ x,w'.cell? x=w.cell? x:=fun x=>by
  by_cases hx:x.block=b
  ·simp [World.cell?,hx,hat,hh]
  ·exact a27 (hsame _ hx)
 have hsz:w'.heap.size=w.heap.size:=by rw [e1]; simp
 exact {
  size:=h.size,defers:=h.defers,agree:=h.agree
  lt:=fun x t hx=>by rw [hsz]; exact h.lt x t hx
  old:=fun x hx hE=>by
   obtain ⟨h1,h2⟩:=h.old x hx hE
   exact ⟨h1,(hsame x (by rintro rfl; rw [hb] at h1; cases h1)).trans h2⟩
  le:=by rw [hsz]; exact h.le
  os:=e2.trans h.os,tape:=e3.trans h.tape,output:=e4.trans h.output
  glob:=fun g v hg=>by
   obtain ⟨h1,h2⟩:=h.globA g v hg
   have:=(h.old g h1 h2).1
   exact (h.glob g v hg).keep (hsame g (by rintro rfl; rw [hb] at this; cases this))
  globA:=h.globA
  slots:=a1y h (fun _ _=>false) (fun t=>t=j) (fun t ht=>by
    rw [a2z]
    exact ⟨rfl,rfl,fun x hx=>⟨hx,hsame x (by rintro rfl; rw [hb] at hx; injection hx with hx; exact ht hx.symm)⟩⟩) (fun t ht=>by
    subst ht
    have hr:=h.slots t
    rw [hs,hv] at hr ⊢
    simp only [R] at hr ⊢
    rcases hr with ⟨h0,_⟩ | ⟨b',c',cur',T',fz0,hv',hb',hh',hz',g1,g2,g3,g4,g5⟩
    ·omega
    ·simp only [Value.slice.injEq,Option.some.injEq,Addr.mk.injEq] at hv'
     obtain ⟨⟨rfl,_⟩,_,rfl⟩:=hv'
     rw [hh] at hh'
     simp only [Option.some.injEq,Obj.cells.injEq] at hh'
     obtain ⟨rfl,rfl,rfl⟩:=hh'
     refine .inr ⟨b,c,cur,T,fz',rfl,hb,hat,hz hz',g1,g2,g3,g4,?_⟩
     exact a1a (fun x hx=>⟨hx.1,by rw [hsz]; exact hx.2.1,hx.2.2⟩) (fun x hx=>hsame x (by rintro rfl; have:=hx.1; rw [hb] at this; cases this)) ks (fun _ _ h=>h) (fun _ h=>h) (fun x hx=>hsame x hx.2) g5) (fun x hx=>by
    exact ⟨⟨hx.1,by rw [hsz]; exact hx.2.1,hx.2.2⟩,hsame x (by rintro rfl; have:=hx.1; rw [hb] at this; cases this)⟩) (fun t q _=>Stab.same rfl rfl (a6r hcell q _)) }
theorem a9s {w:World} {b:Nat} {cur:Array Value} {T:TypeId} {fz:Nat×Nat} (hh:w.heap[b]? =some (.cells cur T fz)):∃ fz' w',(b1q fz cur.size->b1q fz' cur.size)/\(markStringish ⟨b,0,none⟩).run P w= .ok () w'/\w'.heap=w.heap.setIfInBounds b (.cells cur T fz')/\w'.os=w.os/\w'.tape=w.tape/\w'.output=w.output:=by
 obtain ⟨lo,hi⟩:=fz
 refine ⟨if lo==hi then (cur.size,cur.size+1) else (min lo cur.size,max hi (cur.size+1)),w.freeze ⟨b,cur.size,none⟩ 1,fun hz=> ?_,?_,?_,?_,?_,?_⟩
 ·split
  ·exact .inr (Nat.le_refl _)
  ·rename_i hne
   rcases hz with hz | hz
   ·exact absurd hz (by simpa using hne)
   ·exact .inr (by simp only; have:cur.size<=lo:=hz; omega)
 ·have:w.shape? b=some (T,cur.size):=by simp [World.shape?,hh]
  simp only [markStringish,Sem.run_bind,run_shape,Result.andThen_ok,this]
  rfl
 ·unfold World.freeze
  rw [if_neg (by decide)]
  have hlt:b < w.heap.size:=(Array.getElem?_eq_some_iff.1 hh).1
  have hg:w.heap[b]= .cells cur T (lo,hi):=(Array.getElem?_eq_some_iff.1 hh).2
  apply Array.ext
  ·simp
  ·intro i h1 h2
   simp only [Array.getElem_modify]
   by_cases hi2:b=i
   ·subst hi2
    simp [hg]
   ·simp only [hi2,if_false]
    rw [Array.getElem_setIfInBounds_ne _ hi2]
 ·unfold World.freeze; rw [if_neg (by decide)]
 ·unfold World.freeze; rw [if_neg (by decide)]
 ·unfold World.freeze; rw [if_neg (by decide)]
theorem b1z (h:Sim E N st a w val ow) {s d:TypeId} {x:X} (ho:o.op= .convert s d x.op) (hd:∀ d,o.dst=some d->d < N) (hok:(okX N x&&(s==d&&(match P.underlying s with | some (.slice e)=>(match P.underlying e with | some (.int .u8)=>true | _=>false) | _=>false)))=true)
  (hr:(a0w G N o.dst (.conv s d .keep x)).run st=some (u,st')):Done E N P o a w st':=by
 simp only [Bool.and_eq_true,beq_iff_eq] at hok
 obtain ⟨hx,rfl,hk⟩:=hok
 obtain ⟨e,hs,he⟩:∃ e,P.underlying s=some (.slice e)/\P.underlying e=some (.int .u8):=by
  split at hk
  ·rename_i e h1
   split at hk
   ·rename_i h2; exact ⟨e,h1,h2⟩
   ·cases hk
  ·cases hk
 simp only [a0w] at hr
 obtain ⟨_,st1,h1,h2⟩:=a0a hr
 obtain ⟨val1,ow1,hs1,hk1,hv1⟩:=b1k h hx h1
 obtain ⟨r,st2,h3,h4⟩:=a0a h2
 obtain ⟨rfl,rfl⟩:=a09 h3
 simp only at h4
 split at h4
 ·rename_i sz n ks hsN
  obtain ⟨_,st3,h5,h6⟩:=a0a h4
  obtain ⟨hg,rfl⟩:=a0b h5
  simp only [Bool.and_eq_true,beq_iff_eq,decide_eq_true_eq] at hg
  obtain ⟨rfl,hn⟩:=hg
  have hR:=hs1.slots N
  rw [hsN] at hR
  simp only [R] at hR
  rcases hR with ⟨h0,_⟩ | ⟨b,c,cur,T,fz,hv,hb,hh,hz,_⟩
  ·omega
  ·obtain ⟨fz',w',k1,k2,k3,k4,k5,k6⟩:=a9s (P:=P) hh
   have hs2:=hs1.refreeze hsN hv hn hb hh k1 k3 k4 k5 k6
   have hrun:(execOp a.eval o).run P w= .ok (.value (a.eval x.op)) w':=by
    simp only [execOp,ho,<-hv1,hv]
    refine a3c ?_
    simp only [convert,Sem.run_bind,run_underlying hs,Result.andThen_ok,run_underlying he,beq_self_eq_true,k2,Sem.run_pure]
   have hsE:st3.s N= .own 1 n ks:=hsN
   have hs3:Sim E N (st3.put N (.own 1 n ks)) a w' val1 ow1:=hs2.ghost (fun _=>False) (fun _ _=>rfl) (fun b t hb=>⟨t,hb⟩) (fun t _=>⟨by by_cases ht:t=N<;>simp [ht,hsE],rfl,fun _ h=>h⟩)
    (fun t q=>by
     by_cases ht:t=N
     ·subst ht; exact Stab.put (v:= .own 1 n ks) (by simp) (by simp [St.put_ep]) q
     ·exact Stab.same (by simp [St.put_ep,ht]) (by simp [ht]) rfl) (fun _ _ t ht=>ht.elim)
   exact Done.thru hd hrun hs3 hv1 h6
 ·simp [Ev.run] at h4
end
end Go.Ideal
end
