/- Part Qad of the proof: walks on a machine that is proved sound. -/
import Derived.Test.YtploijbaclgehaaDoorQac
import Derived.Scope
set_option linter.unusedVariables false
set_option linter.unusedSimpArgs false
section
namespace Go.Ideal
open Classical
def rvT:ResultVar->Nat
 | .tmp t=>t
 | .cell t _=>t
def a90 (P:Program) (N:Nat) (st:St):ResultVar->Option AV
 | .tmp t=>if decide (t < N)&&noRef (st.s t) then some (st.s t) else none
 | .cell t T=>if t < N then (match st.s t with
  | .var ks=>(match b2g P T,ks with
   | some false,[k]=>some k
   | some true,ks=>if a71 P T ks.length then some (.agg ks) else none
   | _,_=>none)
  | _=>none) else none
def c4a (P:Program) (N:Nat) (st:St):List ResultVar->Option (List AV)
 | []=>some []
 | r::rs=>match a90 P N st r,c4a P N st rs with
  | some k,some ks=>some (k::ks)
  | _,_=>none
def b01 (P:Program) (N:Nat) (st:St) (rs:List ResultVar):Option AV:=match c4a P N st rs with
 | some [k]=>some k
 | some ks=>some (.tup ks)
 | none=>none
def b2v (tmps:Array Value):ResultVar->Sem Value
 | .tmp t=>pure (tmps.getD t undef)
 | .cell a t=>do loadVar t (<-asAddr (tmps.getD a undef))
section
variable {E:Env} {N:Nat} {st:St} {a:Act} {w:World} {val:Nat->Value} {ow:Nat->Option Nat} {P:Program} {G:GG}
theorem b5j (h:Sim E N st a w val ow) {r:ResultVar} {k:AV} (hr:a90 P N st r=some k):∃ v,(b2v a.tmps r).run P w= .ok v w/\R w (Mo E w ow) k noQ (fun b=>ow b=some (rvT r)) v:=by
 cases r with
 | tmp t=>
  simp only [a90,Bool.and_eq_true,decide_eq_true_eq] at hr
  split at hr
  ·rename_i hc
   simp only [Option.some.injEq] at hr
   subst hr
   exact ⟨_,rfl,by rw [h.agree t hc.1]; exact a44 hc.2 (h.slots t)⟩
  ·cases hr
 | cell t T=>
  simp only [a90] at hr
  split at hr
  ·rename_i ht
   split at hr
   ·rename_i ks hks
    have hsl:=h.slots t
    rw [hks] at hsl
    have hsl0:=hsl
    simp only [R] at hsl
    obtain ⟨b,cur,T',fz,hv,hb,hh,hz,h1,hrl⟩:=hsl
    have ha:(b2v a.tmps (.cell t T)).run P w=(loadVar T ⟨b,0,none⟩).run P w:=by
     simp only [b2v,h.agree t ht,hv,asAddr,Sem.run_bind,Sem.run_pure,Result.andThen_ok]
    have hlen:=a0m hrl
    split at hr
    ·rename_i k' hag
     simp only [Option.some.injEq] at hr
     subst hr
     obtain ⟨v,hvs,hrk⟩:=b7v hrl
     refine ⟨v,?_,a1l (fun b hb=>hb.1) hrk⟩
     rw [ha]
     have hcell:w.cell? ⟨b,0,none⟩=some v:=by
      rw [a0z hh]
      have:cur.toList[0]? =some v:=by rw [hvs]; rfl
      simpa using this
     have hagg:(isAgg T).run P w= .ok false w:=by
      unfold b2g at hag
      split at hag<;>simp only [Option.some.injEq,reduceCtorEq] at hag
      rename_i td hn1 hn2 hu
      unfold isAgg
      rw [Sem.run_bind,run_underlying hu]
      cases td<;>first
       | rfl
       | exact (hn1 _ rfl).elim
       | exact (hn2 _ _ rfl).elim
       | exact (hn1 _ _ rfl).elim
       | exact (hn2 _ rfl).elim
     simp only [loadVar,Sem.run_bind,hagg,Result.andThen_ok]
     simp [load,Sem.run,hcell]
    ·rename_i ks' hag
     split at hr
     ·rename_i hsz
      simp only [Option.some.injEq] at hr
      subst hr
      obtain ⟨i,hi,hszi⟩:=a2m hsz
      refine ⟨.agg cur,?_,?_⟩
      ·rw [ha]
       have hagg:(isAgg T).run P w= .ok true w:=by
        unfold b2g at hag
        unfold isAgg
        split at hag
        ·rename_i fs hu; rw [Sem.run_bind,run_underlying hu]; rfl
        ·rename_i n e hu; rw [Sem.run_bind,run_underlying hu]; rfl
        ·simp at hag
        ·cases hag
       have hsize:(sizeOf T).run P w= .ok cur.toList.length w:=by simp [sizeOf,typeInfo,hi,hszi]; simpa using hlen.symm
       have hlc:=a9a P b 0 cur.toList (w:=w) (fun i v hv=>by rw [Nat.zero_add,a0z hh]; simpa using hv)
       simp only [loadVar,Sem.run_bind,hagg,Result.andThen_ok,hsize,hlc,if_true,Sem.run_pure]
      ·simp only [R]
       exact ⟨cur,rfl,h1,a1r (fun b hb=>hb.1) hrl⟩
     ·cases hr
    ·cases hr
   ·cases hr
  ·cases hr
theorem b2s (h:Sim E N st a w val ow):∀ (rs:List ResultVar) {ks:List AV},(rs.map rvT).Nodup->c4a P N st rs=some ks->∃ vs,(rs.mapM (b2v a.tmps)).run P w= .ok vs w/\RL w (Mo E w ow) ks noQ (fun b=>∃ t,t∈rs.map rvT/\ow b=some t) vs
 | [],ks,_,hr=>by
  simp only [c4a,Option.some.injEq] at hr
  subst hr
  exact ⟨[],by simp,by simp [RL]⟩
 | r::rs,ks,hn,hr=>by
  simp only [c4a] at hr
  split at hr
  ·rename_i k ks' h1 h2
   simp only [Option.some.injEq] at hr
   subst hr
   simp only [List.map_cons,List.nodup_cons] at hn
   obtain ⟨v,g1,g2⟩:=b5j h h1
   obtain ⟨vs,g3,g4⟩:=b2s h rs hn.2 h2
   refine ⟨v::vs,by simp [List.mapM_cons,g1,g3],?_⟩
   simp only [RL]
   refine ⟨v,vs,rfl,_,_,fun b hb=>⟨rvT r,by simp,hb⟩,fun b ⟨t,ht,hb⟩=>⟨t,by simp at ht ⊢; exact .inr ht,hb⟩,fun b hb ⟨t,ht,hb2⟩=> ?_,g2,g4⟩
   rw [hb] at hb2
   injection hb2 with hb2
   exact hn.1 (by rw [hb2]; exact ht)
  ·cases hr
theorem b7c (h:Sim E N st a w val ow) {fn:Func} {rs:List ResultVar} (hfn:fn.results.toList=rs) (hn:(rs.map rvT).Nodup) {res:AV} (hr:b01 P N st rs=some res) :
  ∃ v,(results fn a.tmps).run P w= .ok v w/\R w (Mo E w ow) res noQ (fun b=>∃ t,t∈rs.map rvT/\ow b=some t) v:=by
 unfold b01 at hr
 have key:∀ ks,c4a P N st rs=some ks->∃ vs:List Value,(results fn a.tmps).run P w= .ok (if h:vs.toArray.size=1 then vs.toArray[0] else .tuple vs.toArray) w/\RL w (Mo E w ow) ks noQ (fun b=>∃ t,t∈rs.map rvT/\ow b=some t) vs:=by
  intro ks hks
  obtain ⟨vs,g1,g2⟩:=b2s h rs hn hks
  refine ⟨vs,?_,g2⟩
  unfold results
  have hm:(fn.results.mapM (b2v a.tmps)).run P w= .ok vs.toArray w:=by
   rw [Array.mapM_eq_mapM_toList,hfn]
   simp [g1]
  have hgen:∀ g:ResultVar->Sem Value,g=b2v a.tmps->(fn.results.mapM g).run P w= .ok vs.toArray w:=fun g hg=>by rw [hg]; exact hm
  rw [Sem.run_bind,hgen _ (by funext x; cases x<;>rfl)]
  rfl
 split at hr
 ·rename_i k hk
  simp only [Option.some.injEq] at hr
  subst hr
  obtain ⟨vs,g1,g2⟩:=key _ hk
  obtain ⟨v,rfl,hrk⟩:=b7v g2
  exact ⟨v,by simpa using g1,hrk⟩
 ·rename_i ks hne hk
  simp only [Option.some.injEq] at hr
  subst hr
  obtain ⟨vs,g1,g2⟩:=key _ hk
  have hl:vs.length≠1:=by
   rw [a0m g2]
   intro h1
   obtain ⟨k,rfl⟩:=List.length_eq_one_iff.1 h1
   exact hne k rfl
  refine ⟨.tuple vs.toArray,by simpa [hl] using g1,?_⟩
  simp only [R]
  exact ⟨_,rfl,g2⟩
 ·cases hr
end
def c74 (P:Program) (N:Nat) (rs:List ResultVar) (res:AV):Exit->St->Prop
 | .normal,st | .ret,st=>b01 P N st rs=some res
 | _,_=>False
def e93 (P:Program) (N:Nat) (rs:List ResultVar) (res:AV) (posts:List (Nat×AV)):Exit->St->Prop
 | .normal,st | .ret,st=>b01 P N st rs=some res/\∀ p∈posts,st.s p.1=p.2
 | _,_=>False
theorem a65 {P:Program} {G:GG} {f:FuncId} {fn:Func} {c:Code} {N:Nat} {rs:List ResultVar} {pre:List AV} {res:AV} {posts:List (Nat×AV)} (hf:P.funcs[f]? =some fn) (hb:fn.body=some c) (hN:fn.ntmps=N) (hrs:fn.results.toList=rs) (hnd:(rs.map rvT).Nodup)
  (hsz:pre.length<=N) (hpost:∀ p∈posts,p.1 ∉ rs.map rvT/\p.1 < pre.length/\noRef p.2=true) (h:AWp P G N (posts.map (·.1)) c (e93 P N rs res posts) (St.init pre)):ACallsX P G f pre res posts:=by
 intro w args A ow hargs hA how hG hpre
 refine calls_of_wp hf hb ?_
 let E:Env:=⟨w,A,fun b=>ow b≠none,G⟩
 let a:Act:={ tmps:=args++Array.replicate (fn.ntmps - args.size) undef,defers:=[] }
 have hasz:a.tmps.size=N:=by
  simp only [a,Array.size_append,Array.size_replicate]; omega
 have hrest:∀ t,pre.length<=t->a.tmps.getD t undef=undef:=fun t ht=>by
  simp only [a,Array.getD_eq_getD_getElem?]
  rw [Array.getElem?_append_right (by omega)]
  by_cases h2:t - args.size < fn.ntmps - args.size
  ·simp [h2]
  ·simp [h2]
 have hfst:∀ t,t < pre.length->a.tmps.getD t undef=args.getD t undef:=fun t ht=>by
  simp only [a,Array.getD_eq_getD_getElem?]
  rw [Array.getElem?_append_left (by omega)]
 have hall:(fun t=>args.getD t undef)=fun t=>a.tmps.getD t undef:=by
  funext t
  by_cases ht:t < pre.length
  ·exact (hfst t ht).symm
  ·rw [hrest t (by omega),Array.getD_eq_getD_getElem?,Array.getElem?_eq_none (by omega)]
   rfl
 rw [hall] at hpre
 have hs:Sim E N (St.init pre) a w (fun t=>a.tmps.getD t undef) ow:={
  size:=hasz,defers:=rfl,agree:=fun _ _=>rfl,lt:=fun b t hb=>(how b t hb).2
  old:=fun b _ hF=>⟨by simpa [E] using hF,rfl⟩
  le:=Nat.le_refl _,os:=rfl,tape:=rfl,output:=rfl
  glob:=fun g v hg=>(hG g v hg).1,globA:=fun g v hg=>⟨(hG g v hg).2.1,by simp [E,(hG g v hg).2.2]⟩
  slots:=fun t=>by
   have hst:∀ av,pre[t]? =some av->(St.init pre).s t=av:=fun av h=>by simp only [St.init,h]
   cases ht:pre[t]? with
   | none=>
    have:pre.length<=t:=by simpa using ht
    have e:(St.init pre).s t= .lit undef:=by simp only [St.init,ht]
    rw [e]
    simp only [R]
    exact hrest t this
   | some av=>
    have hlt:t < pre.length:=(List.getElem?_eq_some_iff.1 ht).1
    rw [hst av ht]
    simp only [hfst t hlt]
    exact a0t (fun b hb=>⟨(hA b hb).2,(hA b hb).1,.inl hb⟩) (fun _ _=>rfl) av (fun _ _ h=>h) (fun _ h=>h) (fun _ _=>rfl) (hpre t av ht) }
 refine wp_mono (h E a w _ ow rfl hs) fun e a' w' ⟨hp,st',val',ow',hq,hs'⟩=> ?_
 have fin:(b01 P N st' rs=some res/\∀ p∈posts,st'.s p.1=p.2)->bodyPost P fn (fun e w'=>∃ v,e= .returned v/\RetX w A (fun b=>ow b≠none) w' res v posts args) .ret a' w':=fun ⟨ho,hps⟩=>by
  obtain ⟨v,hr,hR⟩:=b7c hs' hrs hnd ho
  refine ⟨hs'.defers,v,hr,v,rfl,?_⟩
  let own:Nat->Option Nat:=fun b=>match ow' b with
   | some t=>if t∈posts.map (·.1) then some (t+1) else some 0
   | none=>none
  have hMo:∀ b,Mo E w' ow' b->b < w'.heap.size/\own b=none/\(A b\/ow b≠none\/w.heap.size<=b):=fun b hb=>⟨hb.2.1,by simp only [own,hb.1],hb.2.2⟩
  exact {
   le:=hs'.le,os:=hs'.os,tape:=hs'.tape,output:=hs'.output
   frame:=fun b hb hF=>(hs'.old b hb hF).2
   own:=⟨own,fun b j hb=>by
     cases ho:ow' b with
     | none=>simp only [own,ho] at hb; cases hb
     | some t=>exact ⟨(hs'.owned ho).2,(hs'.owned ho).1⟩,
    a0t hMo (fun _ _=>rfl) res (fun _ _ h=>h) (fun b ⟨t,ht,hb⟩=>by
     have:t ∉ posts.map (·.1):=fun hm=>by
      obtain ⟨p,hp1,hp2⟩:=List.mem_map.1 hm
      exact (hpost p hp1).1 (by rw [hp2]; exact ht)
     simp only [own,hb,this,if_false]) (fun _ _=>rfl) hR,
    fun i av hm=>by
     obtain ⟨_,hil,hnr⟩:=hpost _ hm
     have hsl:=hs'.slots i
     rw [hps _ hm] at hsl
     have hv:val' i=args.getD i undef:=by
      rw [<-hs'.agree i (by omega),hp i (List.mem_map.2 ⟨_,hm,rfl⟩)]
      exact hfst i hil
     rw [hv] at hsl
     exact a0t hMo (fun _ _=>rfl) av (fun _ _ h=>h) (fun b hb=>by
      have:i∈posts.map (·.1):=List.mem_map.2 ⟨_,hm,rfl⟩
      simp only [own,hb,this,if_true]) (fun _ _=>rfl) (a44 hnr hsl)⟩ }
 cases e with
 | normal=>exact fin hq
 | ret=>exact fin hq
 | exit id=>exact hq.elim
 | goto l=>exact hq.elim
 | panic ch=>exact hq.elim
 | outgrown=>exact hq.elim
theorem ACallsX.plain {P:Program} {G:GG} {f:FuncId} {pre:List AV} {res:AV} (h:ACallsX P G f pre res []):ACalls P G f pre res:=fun w args A ow h1 h2 h3 h4 h5=>by
 refine (h w args A ow h1 h2 h3 h4 fun i av hi=>a0t (fun _ h=>h) (fun _ _=>rfl) av (fun _ _ h=>h.elim) (fun _ h=>h) (fun _ _=>rfl) (h5 i av hi)).mono ?_
 rintro e w' ⟨v,rfl,hr⟩
 obtain ⟨own,hown,hR,_⟩:=hr.own
 refine ⟨v,rfl,hr.le,hr.os,hr.tape,hr.output,hr.frame,fun b=>∃ j,own b=some j,fun b ⟨j,hb⟩=>hown b j hb,?_⟩
 exact a0t (fun b hb=>⟨hb.1,fun ⟨j,hj⟩=>(by rw [hb.2.1] at hj; cases hj),hb.2.2⟩) (fun _ _=>rfl) res (fun _ _ h=>h) (fun b hb=>⟨0,hb⟩) (fun _ _=>rfl) hR
theorem b1y {P:Program} {G:GG} {f:FuncId} {fn:Func} {c:Code} {N:Nat} {rs:List ResultVar} {pre:List AV} {res:AV} (hf:P.funcs[f]? =some fn) (hb:fn.body=some c) (hN:fn.ntmps=N) (hrs:fn.results.toList=rs) (hnd:(rs.map rvT).Nodup)
  (hsz:pre.length<=N) (h:AWp P G N [] c (c74 P N rs res) (St.init pre)):ACalls P G f pre res:=
 ACallsX.plain (a65 hf hb hN hrs hnd hsz (fun p hp=>by cases hp) (h.mono fun e st hq=>by
  cases e<;>first | exact ⟨hq,fun p hp=>by cases hp⟩ | exact hq.elim))
open Classical
def agr (st st2:St) (t:Nat):Prop:=st2.s t=st.s t/\st2.ep t=st.ep t
theorem agr.refl (st:St) (t:Nat):agr st st t:=⟨rfl,rfl⟩
theorem agr.trans {a b c:St} {t:Nat} (h:agr a b t) (h2:agr b c t):agr a c t:=⟨h2.1.trans h.1,h2.2.trans h.2⟩
theorem agr.symm {a b:St} {t:Nat} (h:agr a b t):agr b a t:=⟨h.1.symm,h.2.symm⟩
theorem agr.put {a b:St} {t u:Nat} (v:AV) (h:agr a b t):agr (a.put u v) (b.put u v) t:=by
 unfold agr at *
 by_cases ht:t=u
 ·subst ht; simp [St.put_ep,h.2]
 ·simp [St.put_ep,ht,h.1,h.2]
theorem agr.set {a b:St} {t u:Nat} (v:AV) (h:agr a b t):agr (a.set u v) (b.set u v) t:=by
 unfold agr at *
 by_cases ht:t=u
 ·subst ht; simp [h.2]
 ·simp [ht,h.1,h.2]
theorem agr.putn {a:St} {t u:Nat} (v:AV) (h:t≠u):agr a (a.put u v) t:=by simp [agr,St.put_ep,h]
theorem agr.setn {a:St} {t u:Nat} (v:AV) (h:t≠u):agr a (a.set u v) t:=by simp [agr,h]
structure FR (α:Type) where
 a:α
 st:St
 rd:List Nat
 wr:List Nat
 sw:List Nat
def Ev.runF (N:Nat) {α:Type}:Ev α->St->List Nat->Option (FR α)
 | .ret a,st,sw=>some ⟨a,st,[],[],sw⟩
 | .fail,_,_=>none
 | .get t k,st,sw=>if t < N then ((k (st.s t) (st.ep t)).runF N st sw).map fun r=>{ r with rd:=t::r.rd } else none
 | .getv t k,st,sw=>if t < N then ((k (st.s t)).runF N st sw).map fun r=>{ r with rd:=t::r.rd } else if sw.contains t then (k (st.s t)).runF N st sw else none
 | .put t v k,st,sw=>if t < N then (k.runF N (st.put t v) sw).map fun r=>{ r with wr:=t::r.wr } else k.runF N (st.put t v) (t::sw)
 | .upd t v k,st,sw=>if t < N then (k.runF N (st.set t v) sw).map fun r=>{ r with wr:=t::r.wr } else k.runF N (st.set t v) (t::sw)
 | .kill t q o m k,st,sw=>(k.runF N (st.kill t q o m) sw).map fun r=>{ r with rd:=List.range N++r.rd,wr:=List.range N++r.wr }
theorem a21 {N:Nat} {α:Type}:∀ (e:Ev α) (st:St) (sw:List Nat) (r:FR α),e.runF N st sw=some r->
  (∀ t,t∈r.rd\/t∈r.wr->t < N)/\(∀ t,t < N->t ∉ r.wr->agr st r.st t)/\e.run st=some (r.a,r.st)/\
  ∀ st2,(∀ t,t∈r.rd\/t∈r.wr->agr st st2 t)->(∀ t,t∈sw->st2.s t=st.s t)->
   ∃ st2',e.run st2=some (r.a,st2')/\(∀ t,t∈r.wr->agr r.st st2' t)/\(∀ t,t < N->t ∉ r.wr->agr st2 st2' t)/\∀ t,t∈r.sw->st2'.s t=r.st.s t
 | .ret a,st,sw,r,h=>by
  simp only [Ev.runF,Option.some.injEq] at h
  subst h
  exact ⟨fun t ht=>by simp at ht,fun t _ _=>agr.refl st t,rfl,fun st2 _ h2=>⟨st2,rfl,fun t ht=>by simp at ht,fun t _ _=>agr.refl st2 t,h2⟩⟩
 | .fail,st,sw,r,h=>by simp [Ev.runF] at h
 | .kill t q o m k,st,sw,r,h=>by
  simp only [Ev.runF] at h
  obtain ⟨r0,h0,rfl⟩:=Option.map_eq_some_iff.1 h
  obtain ⟨e1,e2,e3,e4⟩:=a21 _ _ sw r0 h0
  have hka:∀ {a b:St} {u:Nat},agr a b u->agr (a.kill t q o m) (b.kill t q o m) u:=fun h=>⟨by simp only [St.kill,h.1],h.2⟩
  refine ⟨fun u hu=> ?_,fun u hu hn=> ?_,e3,fun st2 g1 g2=> ?_⟩
  ·rcases hu with hu | hu<;>rcases List.mem_append.1 hu with hu | hu
   ·exact List.mem_range.1 hu
   ·exact e1 u (.inl hu)
   ·exact List.mem_range.1 hu
   ·exact e1 u (.inr hu)
  ·exact absurd (List.mem_append.2 (.inl (List.mem_range.2 hu))) hn
  ·have ha:∀ u,u < N->agr st st2 u:=fun u hu=>g1 u (.inl (List.mem_append.2 (.inl (List.mem_range.2 hu))))
   obtain ⟨st2',q1,q2,q3,q4⟩:=e4 (st2.kill t q o m) (fun u hu=>hka (ha u (e1 u hu))) (fun u hu=>by simp only [St.kill,g2 u hu])
   refine ⟨st2',q1,fun u hu=> ?_,fun u hu hn=>absurd (List.mem_append.2 (.inl (List.mem_range.2 hu))) hn,q4⟩
   have huN:u < N:=by
    rcases List.mem_append.1 hu with hu | hu
    ·exact List.mem_range.1 hu
    ·exact e1 u (.inr hu)
   by_cases hw:u∈r0.wr
   ·exact q2 u hw
   ·exact ((e2 u huN hw).symm.trans (hka (ha u huN))).trans (q3 u huN hw)
 | .get t k,st,sw,r,h=>by
  simp only [Ev.runF] at h
  split at h
  ·rename_i ht
   obtain ⟨r0,h0,rfl⟩:=Option.map_eq_some_iff.1 h
   obtain ⟨e1,e2,e3,e4⟩:=a21 _ st sw r0 h0
   refine ⟨fun u hu=> ?_,e2,e3,fun st2 g1 g2=> ?_⟩
   ·rcases hu with hu | hu
    ·rcases List.mem_cons.1 hu with rfl | hu
     ·exact ht
     ·exact e1 u (.inl hu)
    ·exact e1 u (.inr hu)
   ·obtain ⟨st2',q1,q2⟩:=e4 st2 (fun u hu=>g1 u (hu.imp (List.mem_cons_of_mem _) id)) g2
    refine ⟨st2',?_,q2⟩
    have:=g1 t (.inl (by simp))
    simp only [Ev.run,this.1,this.2]
    exact q1
  ·cases h
 | .getv t k,st,sw,r,h=>by
  simp only [Ev.runF] at h
  split at h
  ·rename_i ht
   obtain ⟨r0,h0,rfl⟩:=Option.map_eq_some_iff.1 h
   obtain ⟨e1,e2,e3,e4⟩:=a21 _ st sw r0 h0
   refine ⟨fun u hu=> ?_,e2,e3,fun st2 g1 g2=> ?_⟩
   ·rcases hu with hu | hu
    ·rcases List.mem_cons.1 hu with rfl | hu
     ·exact ht
     ·exact e1 u (.inl hu)
    ·exact e1 u (.inr hu)
   ·obtain ⟨st2',q1,q2⟩:=e4 st2 (fun u hu=>g1 u (hu.imp (List.mem_cons_of_mem _) id)) g2
    refine ⟨st2',?_,q2⟩
    have:=g1 t (.inl (by simp))
    simp only [Ev.run,this.1]
    exact q1
  ·split at h
   ·rename_i ht hc
    obtain ⟨e1,e2,e3,e4⟩:=a21 _ st sw r h
    refine ⟨e1,e2,e3,fun st2 g1 g2=> ?_⟩
    obtain ⟨st2',q1,q2⟩:=e4 st2 g1 g2
    refine ⟨st2',?_,q2⟩
    have:=g2 t (by simpa using hc)
    simp only [Ev.run,this]
    exact q1
   ·cases h
 | .put t v k,st,sw,r,h=>by
  simp only [Ev.runF] at h
  split at h
  ·rename_i ht
   obtain ⟨r0,h0,rfl⟩:=Option.map_eq_some_iff.1 h
   obtain ⟨e1,e2,e3,e4⟩:=a21 _ _ sw r0 h0
   refine ⟨fun u hu=> ?_,fun u hu hn=> ?_,e3,fun st2 g1 g2=> ?_⟩
   ·rcases hu with hu | hu
    ·exact e1 u (.inl hu)
    ·rcases List.mem_cons.1 hu with rfl | hu
     ·exact ht
     ·exact e1 u (.inr hu)
   ·simp only [List.mem_cons,not_or] at hn
    exact (agr.putn v hn.1).trans (e2 u hu hn.2)
   ·obtain ⟨st2',q1,q2,q3,q4⟩:=e4 (st2.put t v) (fun u hu=>(g1 u (hu.imp id (List.mem_cons_of_mem _))).put v) (fun u hu=>by
     by_cases hut:u=t
     ·subst hut; simp
     ·simp [hut,g2 u hu])
    refine ⟨st2',q1,fun u hu=> ?_,fun u hu hn=> ?_,q4⟩
    ·by_cases hw:u∈r0.wr
     ·exact q2 u hw
     ·have hu':u=t:=by rcases List.mem_cons.1 hu with rfl | hu; rfl; exact absurd hu hw
      subst hu'
      exact ((e2 u ht hw).symm.trans ((g1 u (.inr (by simp))).put v)).trans (q3 u ht hw)
    ·simp only [List.mem_cons,not_or] at hn
     exact (agr.putn v hn.1).trans (q3 u hu hn.2)
  ·rename_i ht
   obtain ⟨e1,e2,e3,e4⟩:=a21 _ _ (t::sw) r h
   refine ⟨e1,fun u hu hn=>(agr.putn v (by omega)).trans (e2 u hu hn),e3,fun st2 g1 g2=> ?_⟩
   obtain ⟨st2',q1,q2,q3,q4⟩:=e4 (st2.put t v) (fun u hu=>(g1 u hu).put v) (fun u hu=>by
    by_cases hut:u=t
    ·subst hut; simp
    ·rcases List.mem_cons.1 hu with rfl | hu
     ·exact absurd rfl hut
     ·simp [hut,g2 u hu])
   exact ⟨st2',q1,q2,fun u hu hn=>(agr.putn v (by omega)).trans (q3 u hu hn),q4⟩
 | .upd t v k,st,sw,r,h=>by
  simp only [Ev.runF] at h
  split at h
  ·rename_i ht
   obtain ⟨r0,h0,rfl⟩:=Option.map_eq_some_iff.1 h
   obtain ⟨e1,e2,e3,e4⟩:=a21 _ _ sw r0 h0
   refine ⟨fun u hu=> ?_,fun u hu hn=> ?_,e3,fun st2 g1 g2=> ?_⟩
   ·rcases hu with hu | hu
    ·exact e1 u (.inl hu)
    ·rcases List.mem_cons.1 hu with rfl | hu
     ·exact ht
     ·exact e1 u (.inr hu)
   ·simp only [List.mem_cons,not_or] at hn
    exact (agr.setn v hn.1).trans (e2 u hu hn.2)
   ·obtain ⟨st2',q1,q2,q3,q4⟩:=e4 (st2.set t v) (fun u hu=>(g1 u (hu.imp id (List.mem_cons_of_mem _))).set v) (fun u hu=>by
     by_cases hut:u=t
     ·subst hut; simp
     ·simp [hut,g2 u hu])
    refine ⟨st2',q1,fun u hu=> ?_,fun u hu hn=> ?_,q4⟩
    ·by_cases hw:u∈r0.wr
     ·exact q2 u hw
     ·have hu':u=t:=by rcases List.mem_cons.1 hu with rfl | hu; rfl; exact absurd hu hw
      subst hu'
      exact ((e2 u ht hw).symm.trans ((g1 u (.inr (by simp))).set v)).trans (q3 u ht hw)
    ·simp only [List.mem_cons,not_or] at hn
     exact (agr.setn v hn.1).trans (q3 u hu hn.2)
  ·rename_i ht
   obtain ⟨e1,e2,e3,e4⟩:=a21 _ _ (t::sw) r h
   refine ⟨e1,fun u hu hn=>(agr.setn v (by omega)).trans (e2 u hu hn),e3,fun st2 g1 g2=> ?_⟩
   obtain ⟨st2',q1,q2,q3,q4⟩:=e4 (st2.set t v) (fun u hu=>(g1 u hu).set v) (fun u hu=>by
    by_cases hut:u=t
    ·subst hut; simp
    ·rcases List.mem_cons.1 hu with rfl | hu
     ·exact absurd rfl hut
     ·simp [hut,g2 u hu])
   exact ⟨st2',q1,q2,fun u hu hn=>(agr.setn v (by omega)).trans (q3 u hu hn),q4⟩
open Classical
def d0p (P:Program) (G:GG) (N:Nat) (d:Option Nat) (act:IAct) (K:St->List Nat->List Nat->Prop) (st:St):Prop:=match act with
 | .op i=>match (a0w G N d i).runF N st [] with
  | some r=>K r.st r.rd r.wr
  | none=>False
 | .call f args _=>∃ r1 r2 r3 res,(a4h N (N+2) args).runF N st []=some r1/\(a2s N (N+2) args).runF N r1.st r1.sw=some r2/\ACalls P G f (a37 N args.length r2.st) res/\noRef res=true/\
   (b51 N d res).runF N ((if a0v res then r1.st else r2.st).clear N) []=some r3/\(∀ i,i < args.length->N+2+i∈r2.sw)/\
   K r3.st (r1.rd++r2.rd++r2.wr++r3.rd) (if a0v res then r1.wr++r3.wr else r1.wr++r2.wr++r3.wr)
 | .callx _ _ _ _=>False
 | .nilq _ _ _=>False
 | .bad _=>False
def b44:AV->Bool
 | .var _=>true
 | _=>false
def a6t (V:List (Nat×Nat)) (st:St):Prop:=∀ p∈V,b44 (st.s p.1)=true/\st.ep p.1=p.2
structure Loc (P:Program) (G:GG) (N:Nat) (V:List (Nat×Nat)) (step:(St->Prop)->St->Prop) (st st':St) (rd wr:List Nat):Prop where
 lt:∀ t,t∈rd\/t∈wr->t < N
 frame:∀ t,t < N->t ∉ wr->agr st st' t
 loc:∀ st2,a6t V st2->(∀ t,t∈rd\/t∈wr->agr st st2 t)->∀ K:St->Prop,(∀ st2',(∀ t,t∈wr->agr st' st2' t)->(∀ t,t < N->t ∉ wr->agr st2 st2' t)->K st2')->step K st2
theorem a17 {N:Nat} (st:St) {t:Nat} (h:t < N):agr st (st.clear N) t:=by simp [agr,St.clear,h]
theorem b26 {V:List (Nat×Nat)} {P:Program} {G:GG} {N:Nat} {d:Option Nat} {act:IAct} {K:St->List Nat->List Nat->Prop} {st:St} (h:d0p P G N d act K st):∃ st' rd wr,K st' rd wr/\Loc P G N V (b1x P G N d act) st st' rd wr:=by
 cases act with
 | op i=>
  simp only [d0p] at h
  split at h
  ·rename_i r hr
   obtain ⟨e1,e2,e3,e4⟩:=a21 _ _ _ r hr
   refine ⟨_,_,_,h,e1,e2,fun st2 _ g1 K2 hK=> ?_⟩
   obtain ⟨st2',q1,q2,q3,_⟩:=e4 st2 g1 (fun t ht=>by simp at ht)
   simp only [b1x,q1]
   exact hK st2' q2 q3
  ·exact h.elim
 | call f args tys=>
  simp only [d0p] at h
  obtain ⟨r1,r2,r3,res,h1,h2,hA,hn,h3,hsw,hK⟩:=h
  obtain ⟨a1,a2,a3,a4⟩:=a21 _ _ _ r1 h1
  obtain ⟨b1,b2,b3,b4⟩:=a21 _ _ _ r2 h2
  obtain ⟨c1,c2,c3,c4⟩:=a21 _ _ _ r3 h3
  have hlt:∀ t,t∈r1.rd++r2.rd++r2.wr++r3.rd\/t∈(if a0v res then r1.wr++r3.wr else r1.wr++r2.wr++r3.wr)->t < N:=fun t ht=>by
   have:t∈r1.rd\/t∈r2.rd\/t∈r2.wr\/t∈r3.rd\/t∈r1.wr\/t∈r3.wr:=by
    rcases ht with ht | ht
    ·simp only [List.mem_append] at ht; rcases ht with ((ht | ht) | ht) | ht<;>simp [ht]
    ·split at ht<;>simp only [List.mem_append] at ht
     ·rcases ht with ht | ht<;>simp [ht]
     ·rcases ht with (ht | ht) | ht<;>simp [ht]
   rcases this with ht | ht | ht | ht | ht | ht
   ·exact a1 t (.inl ht)
   ·exact b1 t (.inl ht)
   ·exact b1 t (.inr ht)
   ·exact c1 t (.inl ht)
   ·exact a1 t (.inr ht)
   ·exact c1 t (.inr ht)
  refine ⟨_,_,_,hK,hlt,fun t ht hnw=> ?_,fun st2 _ g K2 hK2=> ?_⟩
  ·by_cases hni:a0v res=true
   ·rw [if_pos hni] at hnw c2
    simp only [List.mem_append,not_or] at hnw
    exact ((a2 t ht hnw.1).trans (a17 _ ht)).trans (c2 t ht hnw.2)
   ·rw [if_neg hni] at hnw c2
    simp only [List.mem_append,not_or] at hnw
    exact (((a2 t ht hnw.1.1).trans (b2 t ht hnw.1.2)).trans (a17 _ ht)).trans (c2 t ht hnw.2)
  ·have w1:∀ t,t∈r1.wr->agr st st2 t:=fun t ht=>g t (.inr (by split<;>simp [ht]))
   have w3:∀ t,t∈r3.wr->agr st st2 t:=fun t ht=>g t (.inr (by split<;>simp [ht]))
   have gr:∀ t,(t∈r1.rd\/t∈r2.rd\/t∈r2.wr\/t∈r3.rd)->agr st st2 t:=fun t ht=>g t (.inl (by simp only [List.mem_append]; rcases ht with ht | ht | ht | ht<;>simp [ht]))
   obtain ⟨s1,p1,p2,p3,p4⟩:=a4 st2 (fun t ht=>ht.elim (fun ht=>gr t (.inl ht)) (w1 t)) (fun t ht=>by simp at ht)
   have k1:∀ t,t < N->agr st st2 t->agr r1.st s1 t:=fun t ht hg=>by
    by_cases hw:t∈r1.wr
    ·exact p2 t hw
    ·exact ((a2 t ht hw).symm.trans hg).trans (p3 t ht hw)
   obtain ⟨s2,q1,q2,q3,q4⟩:=b4 s1 (fun t ht=>k1 t (b1 t ht) (gr t (ht.elim (fun h=> .inr (.inl h)) fun h=> .inr (.inr (.inl h))))) p4
   have k2:∀ t,t < N->agr st st2 t->agr r2.st s2 t:=fun t ht hg=>by
    by_cases hw:t∈r2.wr
    ·exact q2 t hw
    ·exact ((b2 t ht hw).symm.trans (k1 t ht hg)).trans (q3 t ht hw)
   have hpre:a37 N args.length s2=a37 N args.length r2.st:=by
    unfold a37
    apply List.map_congr_left
    intro i hi
    exact q4 _ (hsw i (by simpa using hi))
   by_cases hni:a0v res=true
   ·rw [if_pos hni] at c2 c4 h3 hK2
    obtain ⟨s3,t1,t2,t3,_⟩:=c4 (s1.clear N) (fun t ht=>by
     have htN:=c1 t ht
     have:=ht.elim (fun h=>gr t (.inr (.inr (.inr h)))) (w3 t)
     exact ((a17 _ htN).symm.trans (k1 t htN this)).trans (a17 _ htN)) (fun t ht=>by simp at ht)
    refine ⟨s1,s2,res,s3,p1,q1,by rw [hpre]; exact hA,hn,by rw [if_pos hni]; exact t1,hK2 s3 (fun t ht=> ?_) fun t ht hnw=> ?_⟩
    ·by_cases hw:t∈r3.wr
     ·exact t2 t hw
     ·have hw1:t∈r1.wr:=by simpa [hw] using ht
      have htN:=a1 t (.inr hw1)
      exact ((c2 t htN hw).symm.trans (((a17 _ htN).symm.trans (p2 t hw1)).trans (a17 _ htN))).trans (t3 t htN hw)
    ·simp only [List.mem_append,not_or] at hnw
     exact ((p3 t ht hnw.1).trans (a17 _ ht)).trans (t3 t ht hnw.2)
   ·rw [if_neg hni] at c2 c4 h3 hK2
    obtain ⟨s3,t1,t2,t3,_⟩:=c4 (s2.clear N) (fun t ht=>by
     have htN:=c1 t ht
     have:=ht.elim (fun h=>gr t (.inr (.inr (.inr h)))) (w3 t)
     exact ((a17 _ htN).symm.trans (k2 t htN this)).trans (a17 _ htN)) (fun t ht=>by simp at ht)
    refine ⟨s1,s2,res,s3,p1,q1,by rw [hpre]; exact hA,hn,by rw [if_neg hni]; exact t1,hK2 s3 (fun t ht=> ?_) fun t ht hnw=> ?_⟩
    ·by_cases hw:t∈r3.wr
     ·exact t2 t hw
     ·have hg:agr st st2 t:=by
       rcases (by simpa [hw] using ht:t∈r1.wr\/t∈r2.wr) with h | h
       ·exact w1 t h
       ·exact gr t (.inr (.inr (.inl h)))
      have htN:t < N:=by
       rcases (by simpa [hw] using ht:t∈r1.wr\/t∈r2.wr) with h | h
       ·exact a1 t (.inr h)
       ·exact b1 t (.inr h)
      exact ((c2 t htN hw).symm.trans (((a17 _ htN).symm.trans (k2 t htN hg)).trans (a17 _ htN))).trans (t3 t htN hw)
    ·simp only [List.mem_append,not_or] at hnw
     exact (((p3 t ht hnw.1.1).trans (q3 t ht hnw.1.2)).trans (a17 _ ht)).trans (t3 t ht hnw.2)
 | callx cv args lay tys=>exact h.elim
 | nilq T x yT=>exact h.elim
 | bad o=>exact h.elim
open Classical
def b4p (o:Oper):List Nat:=(o.after.toList.filter (Region.binds .any)).map (·.on)
def c3u:List (List Nat)->List (List Nat)->List (List Nat)
 | [],acc=>acc
 | a::rest,acc=>c3u rest (acc++[a++a.flatMap fun k=>acc.getD k []])
def c4i (aft anc:List (List Nat)):Bool:=decide (aft.length=anc.length)&&(List.range aft.length).all fun j=>
 (aft.getD j []).all (fun k=>decide (k < j))&&(anc.getD j []).all fun k=>(aft.getD j []).contains k||(aft.getD j []).any fun m=>(anc.getD m []).contains k
def c5c (x y:List Nat×List Nat):Bool:=(x.2.all fun t=> !(y.1.contains t)&& !(y.2.contains t))&&y.2.all fun t=> !(x.1.contains t)
def b2n (aft:List (List Nat)) (fps:List (List Nat×List Nat)):Bool:=
 let anc:=c3u aft []
 c4i aft anc&&(List.range fps.length).all fun j=>(List.range j).all fun i=>(anc.getD j []).contains i||c5c (fps.getD i ([],[])) (fps.getD j ([],[]))
inductive Anc (aft:List (List Nat)):Nat->Nat->Prop where
 | base {k i:Nat}:k∈aft.getD i []->Anc aft k i
 | step {k m i:Nat}:Anc aft k m->m∈aft.getD i []->Anc aft k i
theorem b6g {aft anc:List (List Nat)} (h:c4i aft anc=true):∀ j,j < aft.length->(∀ k,k∈aft.getD j []->k < j)/\∀ k,k∈anc.getD j []->Anc aft k j:=by
 simp only [c4i,Bool.and_eq_true,List.all_eq_true,decide_eq_true_eq,Bool.or_eq_true,List.any_eq_true,List.mem_range] at h
 intro j
 induction j using Nat.strongRecOn with
 | _ j ih=>
  intro hj
  obtain ⟨h1,h2⟩:=h.2 j hj
  refine ⟨h1,fun k hk=> ?_⟩
  rcases h2 k hk with h3 | ⟨m,hm,h3⟩
  ·exact .base (by simpa using h3)
  ·exact .step ((ih m (h1 m hm) (Nat.lt_trans (h1 m hm) hj)).2 k (by simpa using h3)) hm
def dCh (P:Program) (G:GG) (N:Nat) (V:List (Nat×Nat)):List AO->List (List Nat×List Nat)->(St->List (List Nat×List Nat)->Prop)->St->Prop
 | [],fps,K,st=>K st fps
 | io::rest,fps,K,st=>∃ st' rd wr,Loc P G N V (a8b P G N io) st st' rd wr/\a6t V st'/\dCh P G N V rest (fps++[(rd,wr)]) K st'
def d0l (P:Program) (G:GG) (N:Nat) (ios:List AO) (aft:List (List Nat)) (K:St->Prop) (st:St):Prop:=
 ∃ V:List (Nat×Nat),(∀ p∈V,p.1 < N)/\a6t V st/\dCh P G N V ios [] (fun stn fps=>b2n aft fps=true/\∀ st',(∀ t,t < N->agr stn st' t)->K st') st
theorem b4w {P:Program} {G:GG} {N:Nat} {V:List (Nat×Nat)}:∀ (is:List AO) (fps:List (List Nat×List Nat)) (K:St->List (List Nat×List Nat)->Prop) (st:St),a6t V st->dCh P G N V is fps K st->
  ∃ (S:Nat->St) (fp:List (List Nat×List Nat)),S 0=st/\fp.length=is.length/\K (S is.length) (fps++fp)/\(∀ i,a6t V (S i))/\∀ i io,is[i]? =some io->Loc P G N V (a8b P G N io) (S i) (S (i+1)) (fp.getD i ([],[])).1 (fp.getD i ([],[])).2
 | [],fps,K,st,h0,h=>⟨fun _=>st,[],rfl,rfl,by simpa [dCh] using h,fun _=>h0,fun i io hi=>by simp at hi⟩
 | io::is,fps,K,st,h0,h=>by
  simp only [dCh] at h
  obtain ⟨st',rd,wr,hL,hI,h1⟩:=h
  obtain ⟨S,fp,e1,e2,e3,e5,e4⟩:=b4w is (fps++[(rd,wr)]) K st' hI h1
  refine ⟨fun n=>match n with | 0=>st | n+1=>S n,(rd,wr)::fp,rfl,by simp [e2],by simpa using e3,fun i=>(by
   cases i with
   | zero=>exact h0
   | succ i=>exact e5 i),fun i io' hi=> ?_⟩
  cases i with
  | zero=>
   simp only [List.getElem?_cons_zero,Option.some.injEq] at hi
   subst hi
   simp only [List.getD_cons_zero]
   rw [e1]; exact hL
  | succ i=>
   simp only [List.getD_cons_succ]
   exact e4 i io' (by simpa using hi)
section
variable {P:Program} {G:GG} {N n:Nat} {S:Nat->St} {rd wr:Nat->List Nat}
theorem a4y (hF:∀ i,i < n->∀ t,t < N->t ∉ wr i->agr (S i) (S (i+1)) t) {t:Nat} (ht:t < N):∀ (m i:Nat),i<=m->m<=n->(∀ k,i<=k->k < m->t ∉ wr k)->agr (S i) (S m) t
 | 0,i,h1,_,_=>by obtain rfl:i=0:=by omega
                  exact agr.refl _ _
 | m+1,i,h1,h2,h3=>by
  by_cases hi:i=m+1
  ·subst hi; exact agr.refl _ _
  ·exact (a4y hF ht m i (by omega) (by omega) (fun k hk hk2=>h3 k hk (by omega))).trans (hF m (by omega) t ht (h3 m (by omega) (by omega)))
def e2i (N:Nat) (S:Nat->St) (wr:Nat->List Nat) (L:Nat->Prop) (st:St):Prop:=∀ t,t < N->
 (∀ j,L j->t∈wr j->(∀ k,L k->t∈wr k->k<=j)->agr (S (j+1)) st t)/\((∀ j,L j->t ∉ wr j)->agr (S 0) st t)
theorem b3n {p:Nat->Prop}:∀ (m:Nat),(∃ k,k < m/\p k)->∃ j,j < m/\p j/\∀ k,k < m->p k->k<=j
 | 0,⟨k,hk,_⟩=>by omega
 | m+1,⟨k,hk,hp⟩=>by
  by_cases hm:p m
  ·exact ⟨m,by omega,hm,fun k hk _=>by omega⟩
  ·have:k≠m:=fun h=>hm (h ▸ hp)
   obtain ⟨j,h1,h2,h3⟩:=b3n m ⟨k,by omega,hp⟩
   refine ⟨j,by omega,h2,fun k hk hp=> ?_⟩
   have:k≠m:=fun h=>hm (h ▸ hp)
   exact h3 k (by omega) hp
theorem c14 (hF:∀ i,i < n->∀ t,t < N->t ∉ wr i->agr (S i) (S (i+1)) t) {L:Nat->Prop} {st:St} (hInv:e2i N S wr L st) (hL:∀ k,L k->k < n) {i:Nat} (hi:i < n) {t:Nat} (ht:t < N)
  (h1:∀ k,L k->t∈wr k->k < i) (h2:∀ k,k < i->t∈wr k->L k):agr (S i) st t:=by
 by_cases hex:∃ k,k < i/\t∈wr k
 ·obtain ⟨j,e1,e2,e3⟩:=b3n (p:=fun k=>t∈wr k) i hex
  have hj:=(hInv t ht).1 j (h2 j e1 e2) e2 (fun k hk hw=>e3 k (h1 k hk hw) hw)
  exact (a4y hF ht i (j+1) (by omega) (by omega) (fun k hk hk2 hw=>by have:=e3 k hk2 hw; omega)).symm.trans hj
 ·have hj:=(hInv t ht).2 (fun j hj hw=>hex ⟨j,h1 j hj hw,hw⟩)
  exact (a4y hF ht i 0 (by omega) (by omega) (fun k _ hk hw=>hex ⟨k,hk,hw⟩)).symm.trans hj
end
theorem b5e {ops:Array Oper} {listed:Array Bool} {i:Nat} (h:i∈Region.ready .any ops listed):i < ops.size/\listed.getD i true=false/\∃ o,ops[i]? =some o/\∀ k,k∈b4p o->listed.getD k false=true:=by
 simp only [Region.ready,List.mem_filter,List.mem_range,Bool.and_eq_true,Bool.not_eq_true'] at h
 obtain ⟨h1,h2,h3⟩:=h
 refine ⟨h1,h2,ops[i],by simp [h1],fun k hk=> ?_⟩
 simp only [h1,Array.getElem?_eq_getElem,Option.map_some,Option.getD_some,Array.all_eq_true] at h3
 simp only [b4p,List.mem_map,List.mem_filter] at hk
 obtain ⟨e,⟨he,hb⟩,rfl⟩:=hk
 obtain ⟨m,hm,rfl⟩:=Array.mem_iff_getElem.1 (Array.mem_toList_iff.1 he)
 have:=h3 m hm
 simp only [hb,Bool.not_true,Bool.false_or] at this
 exact this
theorem c3f {ops:Array Oper} {listed:Array Bool} {i:Nat} {o:Oper} (h1:ops[i]? =some o) (h2:listed.getD i true=false) (h3:∀ k,k∈b4p o->listed.getD k false=true):i∈Region.ready .any ops listed:=by
 have hlt:=(Array.getElem?_eq_some_iff.1 h1).1
 simp only [Region.ready,List.mem_filter,List.mem_range,Bool.and_eq_true,Bool.not_eq_true']
 refine ⟨hlt,h2,?_⟩
 simp only [h1,Option.map_some,Option.getD_some,Array.all_eq_true]
 intro m hm
 by_cases hb:Region.binds .any o.after[m]=true
 ·have:=h3 o.after[m].on (by
   simp only [b4p,List.mem_map,List.mem_filter]
   exact ⟨_,⟨by simp,hb⟩,rfl⟩)
  simp [this]
 ·simp [hb]
open Classical
theorem b8r {x y:List Nat×List Nat} (h:c5c x y=true):(∀ t,t∈x.2->t ∉ y.1/\t ∉ y.2)/\∀ t,t∈y.2->t ∉ x.1:=by
 simp only [c5c,Bool.and_eq_true,List.all_eq_true,Bool.not_eq_true',List.contains_iff_mem] at h
 refine ⟨fun t ht=> ?_,fun t ht=> ?_⟩
 ·have:=h.1 t ht
  simpa using this
 ·have:=h.2 t ht
  simpa using this
theorem b96 {n:Nat} {listed:Array Bool} (hsz:listed.size=n) {i:Nat} (hi:i < n) (h:listed.getD i true=false) :
  ((List.range n).filter fun j=> !(listed.setIfInBounds i true).getD j true).length+1=((List.range n).filter fun j=> !listed.getD j true).length:=by
 have key:∀ (l:List Nat),l.Nodup->(i∈l->((l.filter fun j=> !(listed.setIfInBounds i true).getD j true).length+1=(l.filter fun j=> !listed.getD j true).length))/\(i ∉ l->((l.filter fun j=> !(listed.setIfInBounds i true).getD j true)=(l.filter fun j=> !listed.getD j true))):=by
  intro l
  induction l with
  | nil=>intro _; exact ⟨fun h=>by simp at h,fun _=>rfl⟩
  | cons x l ih=>
   intro hn
   obtain ⟨hx,hl⟩:=List.nodup_cons.1 hn
   obtain ⟨i1,i2⟩:=ih hl
   by_cases hxi:x=i
   ·subst hxi
    refine ⟨fun _=> ?_,fun hc=>by simp at hc⟩
    have h1:(!(listed.setIfInBounds x true).getD x true)=false:=by simp [Array.getD_eq_getD_getElem?,Array.getElem?_setIfInBounds,hsz,hi]
    have h2:(!listed.getD x true)=true:=by rw [h]; rfl
    rw [List.filter_cons,List.filter_cons,h1,h2,i2 hx]
    rfl
   ·have h1:(listed.setIfInBounds i true).getD x true=listed.getD x true:=by
     simp [Array.getD_eq_getD_getElem?,Array.getElem?_setIfInBounds_ne (Ne.symm hxi)]
    rw [List.filter_cons,List.filter_cons,h1]
    refine ⟨fun hc=> ?_,fun hc=> ?_⟩
    ·have hil:i∈l:=by rcases List.mem_cons.1 hc with rfl | hc; exact absurd rfl hxi; exact hc
     have:=i1 hil
     cases hb:listed.getD x true with
     | true=>exact this
     | false=>simp only [Bool.not_false,if_true,List.length_cons]; omega
    ·have hil:i ∉ l:=fun hc2=>hc (List.mem_cons_of_mem _ hc2)
     rw [i2 hil]
 exact (key _ List.nodup_range).1 (List.mem_range.2 hi)
theorem c0a {V:List (Nat×Nat)} {pins:List Nat} {a0:Act} {E:Env} {P:Program} {G:GG} {N:Nat} {ops:Array Oper} {ios:List AO} {aft:List (List Nat)} {S:Nat->St} {fp:List (List Nat×List Nat)} {K:St->Prop} {Q:Exit->Act->World->Prop}
  (hm:ops.toList.map o3=ios.map AO.e3) (ha:ops.toList.map b4p=aft) (hok:b9e P N ios=true) (hpin:∀ io∈ios,∀ t∈pins,io.dst≠some t) (hG:E.G=G) (hfp:fp.length=ios.length)
  (hVN:∀ p∈V,p.1 < N) (hVS:∀ i,a6t V (S i)) (hLoc:∀ i io,ios[i]? =some io->Loc P G N V (a8b P G N io) (S i) (S (i+1)) (fp.getD i ([],[])).1 (fp.getD i ([],[])).2) (hind:b2n aft fp=true)
  (hfin:∀ st',(∀ t,t < N->agr (S ios.length) st' t)->K st') (hK:∀ st' a' w' val' ow',K st'->(∀ t∈pins,a'.tmps.getD t undef=a0.tmps.getD t undef)->Sim E N st' a' w' val' ow'->Q .normal a' w') :
  ∀ (fuel:Nat) (listed:Array Bool) {st:St} {a:Act} {w:World} {val:Nat->Value} {ow:Nat->Option Nat},listed.size=ops.size->((List.range ops.size).filter fun i=> !listed.getD i true).length=fuel->
   (∀ j,listed.getD j false=true->∀ k,k∈aft.getD j []->listed.getD k false=true)->e2i N S (fun i=>(fp.getD i ([],[])).2) (fun j=>listed.getD j false=true) st->(∀ t∈pins,a.tmps.getD t undef=a0.tmps.getD t undef)->Sim E N st a w val ow->wpAny P .any ops Q fuel listed a w:=by
 have hsz:ops.size=ios.length:=by have:=congrArg List.length hm; simpa using this
 have hasz:aft.length=ios.length:=by rw [<-ha]; simp [hsz]
 have haft:∀ i o,ops[i]? =some o->aft.getD i []=b4p o:=fun i o ho=>by
  rw [<-ha]
  have:ops.toList[i]? =some o:=by simpa using ho
  simp [List.getD_eq_getElem?_getD,this]
 simp only [b2n,Bool.and_eq_true,List.all_eq_true,List.mem_range,Bool.or_eq_true] at hind
 obtain ⟨hanc,hpair⟩:=hind
 have hS:=b6g hanc
 have hF:∀ i,i < ios.length->∀ t,t < N->t ∉ (fp.getD i ([],[])).2->agr (S i) (S (i+1)) t:=fun i hi t ht hn=>by
  exact (hLoc i ios[i] (by simp [hi])).frame t ht hn
 have hdep:∀ i j,i < j->j < ios.length->(∃ t,(t∈(fp.getD i ([],[])).2/\(t∈(fp.getD j ([],[])).1\/t∈(fp.getD j ([],[])).2))\/(t∈(fp.getD j ([],[])).2/\t∈(fp.getD i ([],[])).1))->Anc aft i j:=fun i j hij hj ⟨t,ht⟩=>by
  rcases hpair j (by omega) i hij with h1 | h1
  ·exact (hS j (by omega)).2 i (by simpa using h1)
  ·obtain ⟨d1,d2⟩:=b8r h1
   rcases ht with ⟨h2,h3⟩ | ⟨h2,h3⟩
   ·exact (h3.elim (d1 t h2).1 (d1 t h2).2).elim
   ·exact (d2 t h2 h3).elim
 intro fuel
 induction fuel with
 | zero=>
  intro listed st a w val ow hls hcount hclosed hInv hp hs
  have hall:∀ i,i < ops.size->listed.getD i true=true:=fun i hi=>by
   have h0:=List.eq_nil_of_length_eq_zero hcount
   rw [List.filter_eq_nil_iff] at h0
   have:=h0 i (List.mem_range.2 hi)
   simpa using this
  have hlast:Q .normal a w:=by
   refine hK st a w val ow (hfin st fun t ht=> ?_) hp hs
   have hLi:∀ i,i < ios.length->listed.getD i false=true:=fun i hi=>by
    have:=hall i (by omega)
    simp only [Array.getD_eq_getD_getElem?] at this ⊢
    have hl:i < listed.size:=by omega
    simpa [hl] using this
   by_cases hex:∃ k,k < ios.length/\t∈(fp.getD k ([],[])).2
   ·obtain ⟨j,e1,e2,e3⟩:=b3n (p:=fun k=>t∈(fp.getD k ([],[])).2) _ hex
    have hout:∀ k,listed.getD k false=true->k < ios.length:=fun k hk=>by
     by_cases hkl:k < listed.size
     ·omega
     ·simp [Array.getD_eq_getD_getElem?,hkl] at hk
    have hj:=(hInv t ht).1 j (hLi j e1) e2 (fun k hk hw=>e3 k (hout k hk) hw)
    exact (a4y (n:=ios.length) hF ht ios.length (j+1) (by omega) (Nat.le_refl _) (fun k hk hk2 hw=>by have:=e3 k hk2 hw; omega)).symm.trans hj
   ·have hout:∀ k,listed.getD k false=true->k < ios.length:=fun k hk=>by
     by_cases hkl:k < listed.size
     ·omega
     ·simp [Array.getD_eq_getD_getElem?,hkl] at hk
    have hj:=(hInv t ht).2 (fun j hj hw=>hex ⟨j,hout j hj,hw⟩)
    exact (a4y (n:=ios.length) hF ht ios.length 0 (by omega) (Nat.le_refl _) (fun k _ hk hw=>hex ⟨k,hk,hw⟩)).symm.trans hj
  refine ⟨?_,hlast⟩
  cases hr:Region.ready .any ops listed with
  | nil=>rfl
  | cons i l=>
   obtain ⟨h1,h2,_⟩:=b5e (by rw [hr]; simp:i∈Region.ready .any ops listed)
   rw [hall i h1] at h2; cases h2
 | succ fuel ih=>
  intro listed st a w val ow hls hcount hclosed hInv hp hs
  refine ⟨fun hr=> ?_,fun i hi=> ?_⟩
  ·-- the first that isn't listed is ready
   exfalso
   have hex:∃ i,i < ops.size/\listed.getD i true=false:=by
    cases hf:(List.range ops.size).filter fun i=> !listed.getD i true with
    | nil=>rw [hf] at hcount; simp at hcount
    | cons x l=>
     have:x∈(List.range ops.size).filter fun i=> !listed.getD i true:=by rw [hf]; simp
     simp only [List.mem_filter,List.mem_range,Bool.not_eq_true'] at this
     exact ⟨x,this⟩
   have hmin:∃ i,(i < ops.size/\listed.getD i true=false)/\∀ k,k < i->¬ (k < ops.size/\listed.getD k true=false):=by
    obtain ⟨i,hi⟩:=hex
    induction i using Nat.strongRecOn with
    | _ i ihm=>
     by_cases hx:∃ k,k < i/\(k < ops.size/\listed.getD k true=false)
     ·obtain ⟨k,h1,h2⟩:=hx; exact ihm k h1 h2
     ·exact ⟨i,hi,fun k h1 h2=>hx ⟨k,h1,h2⟩⟩
   obtain ⟨i,⟨h1,h2⟩,h3⟩:=hmin
   have:i∈Region.ready .any ops listed:=c3f (o:=ops[i]) (by simp [h1]) h2 (fun k hk=>by
    have hk':k∈aft.getD i []:=by rw [haft i ops[i] (by simp [h1])]; exact hk
    have hki:=(hS i (by omega)).1 k hk'
    have:=h3 k hki
    have hkl:k < listed.size:=by omega
    simp only [Array.getD_eq_getD_getElem?] at this ⊢
    simp [hkl,show k < ops.size by omega] at this ⊢
    exact this)
   rw [hr] at this; simp at this
  ·obtain ⟨h1,h2,o,ho,h3⟩:=b5e hi
   have hin:i < ios.length:=by omega
   have hio:ios[i]? =some ios[i]:=by simp [hin]
   have hmi:o3 o=ios[i].e3:=by
    have h4:(ops.toList.map o3)[i]? =(ios.map AO.e3)[i]? :=by rw [hm]
    have h5:ops.toList[i]? =some o:=by simpa using ho
    simp only [List.getElem?_map,h5,hio,Option.map_some,Option.some.injEq] at h4
    exact h4
   have hnL:¬ listed.getD i false=true:=by
    have hl:i < listed.size:=by omega
    simp only [Array.getD_eq_getD_getElem?] at h2 ⊢
    simp [hl] at h2 ⊢
    exact h2
   have hLn:∀ k,listed.getD k false=true->k < ios.length:=fun k hk=>by
    by_cases hkl:k < listed.size
    ·omega
    ·simp [Array.getD_eq_getD_getElem?,hkl] at hk
   have hancL:∀ j k,Anc aft k j->(∀ m,m∈aft.getD j []->listed.getD m false=true)->listed.getD k false=true:=fun j k hA=>by
    induction hA with
    | base hk=>intro hc; exact hc _ hk
    | step hA hmem ihA=>intro hc; exact ihA (fun m hm2=>hclosed _ (hc _ hmem) m hm2)
   have hai:∀ m,m∈aft.getD i []->listed.getD m false=true:=fun m hm2=>h3 m (by rw [<-haft i o ho]; exact hm2)
   have hL:=hLoc i ios[i] hio
   have hbef:∀ t,(t∈(fp.getD i ([],[])).1\/t∈(fp.getD i ([],[])).2)->∀ k,listed.getD k false=true->t∈(fp.getD k ([],[])).2->k < i:=fun t ht k hk hw=>by
    rcases Nat.lt_trichotomy k i with h | h | h
    ·exact h
    ·subst h; exact absurd hk hnL
    ·have hA:=hdep i k h (hLn k hk) ⟨t,by
      rcases ht with ht | ht
      ·exact .inr ⟨hw,ht⟩
      ·exact .inl ⟨ht,.inr hw⟩⟩
     exact absurd (hancL k i hA (hclosed k hk)) hnL
   have hbef2:∀ t,(t∈(fp.getD i ([],[])).1\/t∈(fp.getD i ([],[])).2)->∀ k,k < i->t∈(fp.getD k ([],[])).2->listed.getD k false=true:=fun t ht k hk hw=>
    hancL i k (hdep k i hk hin ⟨t,.inl ⟨hw,ht⟩⟩) hai
   have hst:∀ t,(t∈(fp.getD i ([],[])).1\/t∈(fp.getD i ([],[])).2)->agr (S i) st t:=fun t ht=>
    c14 (n:=ios.length) hF hInv hLn hin (hL.lt t ht) (hbef t ht) (hbef2 t ht)
   have hIV:a6t V st:=fun p hp=>by
    have hag:∃ m,agr (S m) st p.1:=by
     by_cases hex:∃ k,k < ios.length/\listed.getD k false=true/\p.1∈(fp.getD k ([],[])).2
     ·obtain ⟨j,e1,e2,e3⟩:=b3n (p:=fun k=>listed.getD k false=true/\p.1∈(fp.getD k ([],[])).2) _ hex
      exact ⟨j+1,(hInv p.1 (hVN p hp)).1 j e2.1 e2.2 (fun k hk hw=>e3 k (hLn k hk) ⟨hk,hw⟩)⟩
     ·exact ⟨0,(hInv p.1 (hVN p hp)).2 (fun j hj hw=>hex ⟨j,hLn j hj,hj,hw⟩)⟩
    obtain ⟨m,hm1,hm2⟩:=hag
    have:=hVS m p hp
    rw [<-hm1,<-hm2] at this
    exact this
   have hstep:=hL.loc st hIV hst (fun st2=>e2i N S (fun i=>(fp.getD i ([],[])).2) (fun j=>(listed.setIfInBounds i true).getD j false=true) st2) (fun st2' g1 g2=>by
    have hL':∀ j,(listed.setIfInBounds i true).getD j false=true↔j=i\/listed.getD j false=true:=fun j=>by
     by_cases hj:j=i
     ·subst hj
      have hl:j < listed.size:=by omega
      simp [Array.getD_eq_getD_getElem?,Array.getElem?_setIfInBounds,hl]
     ·simp [Array.getD_eq_getD_getElem?,Array.getElem?_setIfInBounds_ne (Ne.symm hj),hj]
    intro t ht
    by_cases hw:t∈(fp.getD i ([],[])).2
    ·refine ⟨fun j hj hjw hmax=> ?_,fun hn=>absurd hw (hn i ((hL' i).2 (.inl rfl)))⟩
     have hij:=hmax i ((hL' i).2 (.inl rfl)) hw
     rcases (hL' j).1 hj with rfl | hj2
     ·exact g1 t hw
     ·have:=hbef t (.inr hw) j hj2 hjw; omega
    ·refine ⟨fun j hj hjw hmax=> ?_,fun hn=> ?_⟩
     ·rcases (hL' j).1 hj with rfl | hj2
      ·exact absurd hjw hw
      ·exact ((hInv t ht).1 j hj2 hjw (fun k hk hkw=>hmax k ((hL' k).2 (.inr hk)) hkw)).trans (g2 t ht hw)
     ·exact ((hInv t ht).2 (fun j hj=>hn j ((hL' j).2 (.inr hj)))).trans (g2 t ht hw))
   have hokio:=List.all_eq_true.1 hok ios[i] (by simp)
   have hcl':∀ j,(listed.setIfInBounds i true).getD j false=true->∀ k,k∈aft.getD j []->(listed.setIfInBounds i true).getD k false=true:=fun j hj k hk=>by
    have mono:listed.getD k false=true->(listed.setIfInBounds i true).getD k false=true:=fun h=>by
     by_cases hki:k=i
     ·subst hki; exact absurd h hnL
     ·simp only [Array.getD_eq_getD_getElem?,Array.getElem?_setIfInBounds_ne (Ne.symm hki)] at h ⊢
      exact h
    by_cases hji:j=i
    ·subst hji; exact mono (hai k hk)
    ·refine mono (hclosed j ?_ k hk)
     simpa [Array.getD_eq_getD_getElem?,Array.getElem?_setIfInBounds_ne (Ne.symm hji)] using hj
   have hcnt:=b96 hls h1 h2
   have hrun:=b21 (K':=fun a' w'=>wpAny P .any ops Q fuel (listed.setIfInBounds i true) a' w') (Q:=Q) hs hG hm hmi hokio hstep (fun st' a' w' val' ow' hk hkp hs'=>
    ih (listed.setIfInBounds i true) (by simpa using hls) (by omega) hcl' hk (fun t ht=>(hkp t (by
     have e1:o.dst=ios[i].dst:=by have:=hmi; simp only [o3,AO.e3,Prod.mk.injEq] at this; exact this.1
     rw [e1]; exact hpin _ (by simp) t ht)).trans (hp t ht)) hs')
   unfold wpOp
   rw [ho]
   simp only
   split
   ·rename_i hw; rw [if_pos hw] at hrun; exact .inl hrun
   ·rename_i hw; rw [if_neg hw] at hrun; exact hrun
theorem AWp.draw {pins:List Nat} {P:Program} {G:GG} {N:Nat} {id:Nat} {ops:Array Oper} {ios:List AO} {aft:List (List Nat)} {Q:Exit->St->Prop} {st:St} (hord:P.follows .mixedOrders=true) (hm:ops.toList.map o3=ios.map AO.e3) (ha:ops.toList.map b4p=aft) (hok:b9e P N ios=true) (hpin:∀ io∈ios,∀ t∈pins,io.dst≠some t)
  (h:d0l P G N ios aft (Q .normal) st):AWp P G N pins (.region id ops true) Q st:=fun E a w val ow hG hs=>by
 obtain ⟨V,hVN,hV0,h⟩:=h
 obtain ⟨S,fp,e1,e2,⟨e3,e4⟩,e6,e5⟩:=b4w ios [] _ st hV0 h
 rw [List.nil_append] at e3
 refine wp_region_any hord ?_
 have hs2:Sim E N st a { w with drawn:=w.drawn+1 } val ow:=hs.world rfl rfl rfl rfl
 have hsz:ops.size=ios.length:=by have:=congrArg List.length hm; simpa using this
 have hrep:∀ (j:Nat) (d:Bool),(Array.replicate ops.size false).getD j d=true->¬ j < ops.size:=fun j d h hj=>by
  simp [Array.getD_eq_getD_getElem?,hj] at h
 refine c0a (a0:=a) hm ha hok hpin hG e2 hVN e6 e5 e3 (K:=Q .normal) e4 (fun st' a' w' val' ow' hk hp hs'=>⟨hp,st',val',ow',hk,hs'⟩) ops.size _ (by simp) ?_ (fun j hj=> ?_) (fun t ht=>⟨fun j hj=> ?_,fun _=>by rw [e1]; exact agr.refl _ _⟩) (fun _ _=>rfl) hs2
 ·rw [List.filter_eq_self.2 (fun i hi=>by
   have hi':=List.mem_range.1 hi
   simp [Array.getD_eq_getD_getElem?,hi'])]
  simp
 ·exfalso
  have h1:=hrep j false hj
  simp [Array.getD_eq_getD_getElem?,h1] at hj
 ·exfalso
  have h1:=hrep j false hj
  simp [Array.getD_eq_getD_getElem?,h1] at hj
inductive EC where
 | skip
 | reg (ops:List (Option Nat×Op×Option (Nat×Bool)))
 | draw (ops:List (Option Nat×Op×Option (Nat×Bool))) (aft:List (List Nat))
 | seq (a b:EC)
 | cond (c:Operand) (a b:EC)
 | block (id:Nat) (a:EC)
 | loop (a:EC)
 | scope (a:EC)
 | exit (id:Nat)
 | label (l:Nat)
 | ret
 | other
def a7x:Code->EC
 | .skip=> .skip
 | .region _ ops false=> .reg (ops.toList.map o3)
 | .region _ ops true=> .draw (ops.toList.map o3) (ops.toList.map b4p)
 | .seq a b=> .seq (a7x a) (a7x b)
 | .cond c a b=> .cond c (a7x a) (a7x b)
 | .block id a=> .block id (a7x a)
 | .loop a=> .loop (a7x a)
 | .scope a=> .scope (a7x a)
 | .exit id=> .exit id
 | .label l=> .label l
 | .ret=> .ret
 | _=> .other
inductive IC where
 | skip
 | reg (ios:List AO)
 | draw (ios:List AO) (aft:List (List Nat))
 | seq (a b:IC)
 | cond (c:X) (a b:IC)
 | block (id:Nat) (a:IC)
 | loop (a:IC)
 | scope (a:IC)
 | exit (id:Nat)
 | label (l:Nat)
 | ret
def IC.ec:IC->EC
 | .skip=> .skip
 | .reg ios=> .reg (ios.map AO.e3)
 | .draw ios aft=> .draw (ios.map AO.e3) aft
 | .seq a b=> .seq a.ec b.ec
 | .cond c a b=> .cond c.op a.ec b.ec
 | .block id a=> .block id a.ec
 | .loop a=> .loop a.ec
 | .scope a=> .scope a.ec
 | .exit id=> .exit id
 | .label l=> .label l
 | .ret=> .ret
def IC.ok (P:Program) (N:Nat):IC->Bool
 | .reg ios=>b9e P N ios
 | .draw ios _=>b9e P N ios
 | .seq a b=>a.ok P N&&b.ok P N
 | .cond _ a b=>a.ok P N&&b.ok P N
 | .block _ a=>a.ok P N
 | .loop a=>a.ok P N
 | .scope a=>a.ok P N
 | _=>true
def e04 (pins:List Nat) (ios:List AO):Bool:=ios.all fun io=>match io.dst with
 | some d=> !pins.contains d
 | none=>true
def IC.pin (pins:List Nat):IC->Bool
 | .reg ios=>e04 pins ios
 | .draw ios _=>e04 pins ios
 | .seq a b=>a.pin pins&&b.pin pins
 | .cond _ a b=>a.pin pins&&b.pin pins
 | .block _ a=>a.pin pins
 | .loop a=>a.pin pins
 | .scope a=>a.pin pins
 | _=>true
theorem b2t {pins:List Nat} {ios:List AO} (h:e04 pins ios=true):∀ io∈ios,∀ t∈pins,io.dst≠some t:=fun io hi t ht he=>by
 have:=List.all_eq_true.1 h io hi
 rw [he] at this
 simp only [Bool.not_eq_true',List.contains_iff_mem] at this
 simp [ht] at this
theorem IC.pin_nil:∀ ic:IC,ic.pin []=true
 | .reg ios | .draw ios _=>by
  simp only [IC.pin,e04,List.all_eq_true]
  intro io _
  cases io.dst<;>simp
 | .seq a b | .cond _ a b=>by simp [IC.pin,pin_nil a,pin_nil b]
 | .block _ a | .loop a | .scope a=>by simp [IC.pin,pin_nil a]
 | .skip | .exit _ | .label _ | .ret=>rfl
def a7c (Q:Exit->St->Prop):Exit->St->Prop
 | .goto _,_=>False
 | e,st=>Q e st
theorem AWp.scope {pins:List Nat} {P:Program} {G:GG} {N:Nat} {st:St} {c:Code} {Q:Exit->St->Prop} (h:AWp P G N pins c (a7c Q) st):AWp P G N pins (.scope c) Q st:=fun E a w val ow hG hs=>
 wp_scope_straight (wp_mono (h E a w val ow hG hs) fun e a' w' ⟨hp,st',val',ow',hq,hs'⟩=>by
  cases e<;>first | exact hq.elim | exact ⟨hp,st',val',ow',hq,hs'⟩)
def AW (P:Program) (G:GG) (N:Nat):IC->(Exit->St->Prop)->St->Prop
 | .skip,Q,st=>Q .normal st
 | .reg ios,Q,st=>a8l P G N ios (Q .normal) st
 | .draw ios aft,Q,st=>d0l P G N ios aft (Q .normal) st
 | .seq a b,Q,st=>AW P G N a (b1n (AW P G N b Q) Q) st
 | .cond c a b,Q,st=>match b95 st N c with
  | some true=>AW P G N a Q st
  | some false=>AW P G N b Q st
  | none=>False
 | .block id a,Q,st=>AW P G N a (a8s id Q) st
 | .loop a,Q,st=>∃ (ι:Type) (I:ι->St->Prop) (μ:ι->Nat) (i0:ι),I i0 st/\∀ i st,I i st->AW P G N a (b1n (fun st'=>∃ i',I i' st'/\μ i' < μ i) Q) st
 | .scope a,Q,st=>AW P G N a (a7c Q) st
 | .exit id,Q,st=>Q (.exit id) st
 | .label _,Q,st=>Q .normal st
 | .ret,Q,st=>Q .ret st
theorem b7u {pins:List Nat} {P:Program} {G:GG} {N:Nat} (hord:P.follows .mixedOrders=true):∀ (ic:IC) (c:Code) (Q:Exit->St->Prop) (st:St),a7x c=ic.ec->ic.ok P N=true->ic.pin pins=true->AW P G N ic Q st->AWp P G N pins c Q st:=by
 intro ic
 induction ic with
 | skip=>
  intro c Q st he hok hpn h
  cases c<;>simp only [a7x,IC.ec,reduceCtorEq] at he
  ·exact AWp.skip h
  ·rename_i id ops d; cases d<;>simp [a7x] at he
 | reg ios=>
  intro c Q st he hok hpn h
  cases c<;>simp only [a7x,IC.ec,reduceCtorEq] at he
  rename_i id ops d
  cases d<;>simp only [a7x,EC.reg.injEq,reduceCtorEq] at he
  exact AWp.region (l:=ops.toList) he hok (b2t hpn) h
 | draw ios aft=>
  intro c Q st he hok hpn h
  cases c<;>simp only [a7x,IC.ec,reduceCtorEq] at he
  rename_i id ops d
  cases d<;>simp only [a7x,EC.draw.injEq,reduceCtorEq] at he
  exact AWp.draw hord he.1 he.2 hok (b2t hpn) h
 | seq a b iha ihb=>
  intro c Q st he hok hpn h
  cases c<;>simp only [a7x,IC.ec,reduceCtorEq] at he
  ·rename_i id ops d; cases d<;>simp [a7x] at he
  ·rename_i x y
   simp only [EC.seq.injEq] at he
   simp only [IC.ok,IC.pin,Bool.and_eq_true] at hok hpn
   exact AWp.seq ((iha x _ st he.1 hok.1 hpn.1 h).mono fun e st' hq=>by
    cases e<;>first | exact ihb y _ st' he.2 hok.2 hpn.2 hq | exact hq)
 | cond cx a b iha ihb=>
  intro c Q st he hok hpn h
  cases c<;>simp only [a7x,IC.ec,reduceCtorEq] at he
  ·rename_i id ops d; cases d<;>simp [a7x] at he
  ·rename_i c' x y
   simp only [EC.cond.injEq] at he
   obtain ⟨rfl,h1,h2⟩:=he
   simp only [IC.ok,IC.pin,Bool.and_eq_true] at hok hpn
   simp only [AW] at h
   split at h
   ·rename_i hc; exact AWp.cond hc (iha x _ st h1 hok.1 hpn.1 h)
   ·rename_i hc; exact AWp.cond hc (ihb y _ st h2 hok.2 hpn.2 h)
   ·exact h.elim
 | block id a iha=>
  intro c Q st he hok hpn h
  cases c<;>simp only [a7x,IC.ec,reduceCtorEq] at he
  ·rename_i id ops d; cases d<;>simp [a7x] at he
  ·rename_i id' x
   simp only [EC.block.injEq] at he
   obtain ⟨rfl,h1⟩:=he
   exact AWp.block (iha x _ st h1 hok hpn h)
 | loop a iha=>
  intro c Q st he hok hpn h
  cases c<;>simp only [a7x,IC.ec,reduceCtorEq] at he
  ·rename_i id ops d; cases d<;>simp [a7x] at he
  ·rename_i x
   simp only [EC.loop.injEq] at he
   obtain ⟨ι,I,μ,i0,h0,hround⟩:=h
   exact AWp.loop I μ i0 h0 fun i st' hI=>iha x _ st' he hok hpn (hround i st' hI)
 | scope a iha=>
  intro c Q st he hok hpn h
  cases c<;>simp only [a7x,IC.ec,reduceCtorEq] at he
  ·rename_i id ops d; cases d<;>simp [a7x] at he
  ·rename_i x
   simp only [EC.scope.injEq] at he
   exact AWp.scope (iha x _ st he hok hpn h)
 | exit id=>
  intro c Q st he hok hpn h
  cases c<;>simp only [a7x,IC.ec,reduceCtorEq] at he
  ·rename_i id ops d; cases d<;>simp [a7x] at he
  ·simp only [EC.exit.injEq] at he; subst he; exact AWp.exit h
 | label l=>
  intro c Q st he hok hpn h
  cases c<;>simp only [a7x,IC.ec,reduceCtorEq] at he
  ·rename_i id ops d; cases d<;>simp [a7x] at he
  ·exact AWp.label h
 | ret=>
  intro c Q st he hok hpn h
  cases c<;>simp only [a7x,IC.ec,reduceCtorEq] at he
  ·rename_i id ops d; cases d<;>simp [a7x] at he
  ·exact AWp.ret h
def rdv (st:St):X->AV
 | .t n=>st.s n
 | .c v=> .lit v
 | .nl sz=> .own sz 0 []
 | .g n=> .lit (.pointer (some ⟨n,0,none⟩))
 | .f n=> .fn n [] []
def rde (st:St):X->Nat
 | .t n=>st.ep n
 | _=>0
theorem a0n (x:X) (st:St):(a1k x).run st=some ((rdv st x,rde st x),st):=by cases x<;>rfl
section
variable {st:St}
@[go_sem] theorem f3z (n:Nat):rdv st (.t n)=st.s n:=(rfl)
@[go_sem] theorem f3w (v:Value):rdv st (.c v)= .lit v:=(rfl)
@[go_sem] theorem f1x (n:Nat):rdv st (.nl n)= .own n 0 []:=(rfl)
@[go_sem] theorem f3y (n:Nat):rdv st (.g n)= .lit (.pointer (some ⟨n,0,none⟩)):=(rfl)
@[go_sem] theorem f3x (n:Nat):rdv st (.f n)= .fn n [] []:=(rfl)
end
def St.thru (st:St) (N d:Nat) (v:AV):St:=((st.put N v).put N .dead).put d v
def St.sc (st:St) (N a b:Nat):St:=⟨fun u=>if u=N then .dead else if u=N+1 then .dead else st.s u,fun u=>if u=N then st.ep u+a else if u=N+1 then st.ep u+b else st.ep u⟩
section
variable {st:St} {N d u t:Nat} {v:AV}
@[go_sem] theorem f14:(st.put t v).s u=if u=t then v else st.s u:=(rfl)
@[go_sem] theorem e7y:(st.put t v).ep u=if u=t then (if nm v then st.ep t+1 else st.ep u) else st.ep u:=by
 simp only [St.put_ep]; by_cases h:u=t<;>simp [h]
@[go_sem] theorem f2a:(st.set t v).s u=if u=t then v else st.s u:=(rfl)
@[go_sem] theorem e72:(st.set t v).ep u=st.ep u:=(rfl)
@[go_sem] theorem e73:(st.thru N d v).s u=if u=d then v else if u=N then .dead else st.s u:=by
 simp only [St.thru,St.put_s]; by_cases h:u=d<;>by_cases h2:u=N<;>simp [h,h2]
@[go_sem] theorem e19:(st.thru N d v).ep u=if u=d then (if nm v then (if d=N then st.ep N+1 else st.ep d)+1 else st.ep u) else if u=N then (if nm v then st.ep N+1 else st.ep N) else st.ep u:=by
 have hd:nm AV.dead=false:=rfl
 simp only [St.thru,St.put_ep,hd]
 by_cases h1:u=d
 ·subst h1
  by_cases h2:nm v<;>by_cases h3:u=N<;>simp [h2,h3]
 ·by_cases h2:nm v<;>by_cases h3:u=N<;>simp [h1,h2,h3]
@[go_sem] theorem f4b {a b:Nat}:(st.sc N a b).s u=if u=N then .dead else if u=N+1 then .dead else st.s u:=(rfl)
@[go_sem] theorem f17 {a b:Nat}:(st.sc N a b).ep u=if u=N then st.ep u+a else if u=N+1 then st.ep u+b else st.ep u:=(rfl)
@[go_sem] theorem e11:(st.clear N).s u=if u < N then st.s u else .dead:=(rfl)
@[go_sem] theorem d6x:(st.clear N).ep u=st.ep u:=(rfl)
@[go_sem] theorem e7t {q:List Nat} {o m:Nat}:(st.kill t q o m).s u=a0x (a9v t q o m) (st.s u):=(rfl)
@[go_sem] theorem e13 {q:List Nat} {o m:Nat}:(st.kill t q o m).ep u=st.ep u:=(rfl)
theorem St.ext' {a b:St} (h1:∀ u,a.s u=b.s u) (h2:∀ u,a.ep u=b.ep u):a=b:=by
 cases a; cases b; simp only [St.mk.injEq]; exact ⟨funext h1,funext h2⟩
end
@[go_sem] theorem d6r (sz n:Nat) (ks:List AV):a0l (.own sz n ks)=some ks:=(rfl)
@[go_sem] theorem d6u (ks:List AV):a0l (.var ks)=some ks:=(rfl)
@[go_sem] theorem d6q (v:Value):a0l (.lit v)=none:=(rfl)
@[go_sem] theorem c90:a0l .dead=none:=(rfl)
@[go_sem] theorem e1y (n:Nat) (ks:List AV):a0l (.sl n ks)=none:=(rfl)
@[go_sem] theorem e1w (n:Nat) (ks:List AV):a0l (.ip ks n)=none:=(rfl)
@[go_sem] theorem d6n (ks:List AV):a0l (.agg ks)=none:=(rfl)
@[go_sem] theorem d6t (ks:List AV):a0l (.tup ks)=none:=(rfl)
@[go_sem] theorem d6p (T:TypeId) (k:AV):a0l (.ifc T k)=none:=(rfl)
@[go_sem] theorem e1v (f:FuncId) (a b:List AV):a0l (.fn f a b)=none:=(rfl)
@[go_sem] theorem d6s (t:Nat) (q:List Nat) (o e:Nat):a0l (.ref t q o e)=none:=(rfl)
attribute [go_sem] d4t d4w e6g c54 d4s e6h e6f d4p d4v d4r e6e d4u d4q c55
@[go_sem] theorem e1x (ks:List Int) (vs:List AV):a0l (.mp ks vs)=none:=(rfl)
@[go_sem] theorem c92 (ks:List AV):a0l (.loan ks)=none:=(rfl)
@[go_sem] theorem d6o (t:Nat) (q:List Nat) (lo n e:Nat):a0l (.bor t q lo n e)=none:=(rfl)
attribute [go_sem] Option.isSome_some Option.isSome_none b0c a9v List.isPrefixOf a0k a1b a01 a3b.noRefL Bool.and_true Bool.true_and Bool.and_false Bool.false_and Bool.false_eq_true Bool.not_true Bool.not_false
section
variable {P:Program} {G:GG} {N:Nat} {K:St->Prop} {Q:Exit->St->Prop} {st:St} {d:Option Nat} {i:IOp} {rest:List AO}
def evS (G:GG) (N:Nat) (d:Option Nat) (i:IOp) (st:St):Option St:=((a0w G N d i).run st).map (·.2)
@[congr] theorem d2f {st':St} (h:st=st'):evS G N d i st=evS G N d i st':=by rw [h]
def oK (o:Option St) (K:St->Prop):Prop:=match o with
 | some st=>K st
 | none=>False
@[congr] theorem e0x {o o':Option St} (h:o=o'):oK o K=oK o' K:=by rw [h]
@[go_sem] theorem e6m:oK (some st) K=K st:=(rfl)
@[go_sem] theorem e6l:oK none K=False:=(rfl)
@[congr] theorem c6y {a a':List AO} {st':St} (h:a=a') (h2:st=st'):a8l P G N a K st=a8l P G N a' K st':=by rw [h,h2]
@[congr] theorem d7t {ic:IC} {st':St} (h2:st=st'):AW P G N ic Q st=AW P G N ic Q st':=by rw [h2]
@[congr] theorem c6p {e:Exit} {st':St} (h2:st=st'):b1n K Q e st=b1n K Q e st':=by rw [h2]
@[congr] theorem c3w {id:Nat} {e:Exit} {st':St} (h2:st=st'):a8s id Q e st=a8s id Q e st':=by rw [h2]
@[congr] theorem c25 {e:Exit} {st':St} (h2:st=st'):a7c Q e st=a7c Q e st':=by rw [h2]
@[congr] theorem c75 {rs:List ResultVar} {res:AV} {e:Exit} {st':St} (h2:st=st'):c74 P N rs res e st=c74 P N rs res e st':=by rw [h2]
@[go_sem] theorem d7x:a8l P G N [] K st=K st:=(rfl)
@[go_sem] theorem e2k:a8l P G N (⟨d,.op i,none⟩::rest) K st=oK (evS G N d i st) (a8l P G N rest K):=by
 simp only [a8l,a8b,b1x,evS]
 cases (a0w G N d i).run st<;>rfl
@[congr] theorem d5q {v v':AV} (h:v=v'):nqK v d K st=nqK v' d K st:=by rw [h]
@[go_sem] theorem d0n {T t yT:Nat}:a8l P G N (⟨d,.nilq T (.t t) yT,none⟩::rest) K st=nqK (st.s t) d (a8l P G N rest K) st:=(rfl)
theorem e6i {d n:Nat} {ks:List AV} (h:∀ b:Bool,(b=true->ks=[])->K (st.put d (.lit (.bool b)))):nqK (.sl n ks) (some d) K st:=h
def gOp (P:Program) (G:GG) (N:Nat) (v:AV) (want:Bool) (d:Option Nat) (act:IAct) (rest:List AO) (K:St->Prop) (st:St):Prop:=match v with
 | .lit (.bool b)=>if b=want then a8l P G N (⟨d,act,none⟩::rest) K st else a8l P G N rest K (a2c d st)
 | .lit _=>a8l P G N rest K (a2c d st)
 | _=>False
section
variable {act:IAct}
@[congr] theorem d3h {v v':AV} {w:Bool} (h:v=v'):gOp P G N v w d act rest K st=gOp P G N v' w d act rest K st:=by rw [h]
@[go_sem] theorem f0g:gOp P G N (.lit (.bool true)) true d act rest K st=a8l P G N (⟨d,act,none⟩::rest) K st:=(rfl)
@[go_sem] theorem f0f:gOp P G N (.lit (.bool true)) false d act rest K st=a8l P G N rest K (a2c d st):=(rfl)
@[go_sem] theorem f0e:gOp P G N (.lit (.bool false)) true d act rest K st=a8l P G N rest K (a2c d st):=(rfl)
@[go_sem] theorem f0d:gOp P G N (.lit (.bool false)) false d act rest K st=a8l P G N (⟨d,act,none⟩::rest) K st:=(rfl)
@[go_sem] theorem f3b {w:Bool}:gOp P G N (.lit undef) w d act rest K st=a8l P G N rest K (a2c d st):=(rfl)
@[go_sem] theorem e8s {j t:Nat} {want:Bool}:a8l P G N (⟨d,act,some (j,t,want)⟩::rest) K st=gOp P G N (st.s t) want d act rest K st:=by
 simp only [a8l,a8b,gOp]
 cases st.s t<;>try rfl
 rename_i v
 cases v<;>simp [b2d,a8l,a8b]
end
@[go_sem] theorem c98 {t:Nat}:a2c (some t) st=st.put t (.lit undef):=(rfl)
@[go_sem] theorem c97:a2c none st=st:=(rfl)
@[go_sem] theorem e2h:AW P G N .skip Q st=Q .normal st:=(rfl)
@[go_sem] theorem e8p {ios:List AO}:AW P G N (.reg ios) Q st=a8l P G N ios (Q .normal) st:=(rfl)
@[go_sem] theorem e8r {a b:IC}:AW P G N (.seq a b) Q st=AW P G N a (b1n (AW P G N b Q) Q) st:=(rfl)
@[go_sem] theorem d7r {id:Nat} {a:IC}:AW P G N (.block id a) Q st=AW P G N a (a8s id Q) st:=(rfl)
@[go_sem] theorem d7v {a:IC}:AW P G N (.scope a) Q st=AW P G N a (a7c Q) st:=(rfl)
@[go_sem] theorem e2g {id:Nat}:AW P G N (.exit id) Q st=Q (.exit id) st:=(rfl)
@[go_sem] theorem d7u {id:Nat}:AW P G N (.label id) Q st=Q .normal st:=(rfl)
@[go_sem] theorem e8q:AW P G N .ret Q st=Q .ret st:=(rfl)
def cAW (P:Program) (G:GG) (N:Nat) (v:AV) (x y:IC) (Q:Exit->St->Prop) (st:St):Prop:=match v with
 | .lit (.bool b)=>if b=true then AW P G N x Q st else AW P G N y Q st
 | _=>False
section
variable {x y:IC}
@[congr] theorem d1g {v v':AV} (h:v=v'):cAW P G N v x y Q st=cAW P G N v' x y Q st:=by rw [h]
@[go_sem] theorem f2n:cAW P G N (.lit (.bool true)) x y Q st=AW P G N x Q st:=(rfl)
@[go_sem] theorem f2m:cAW P G N (.lit (.bool false)) x y Q st=AW P G N y Q st:=(rfl)
@[go_sem] theorem e2f {t:Nat}:AW P G N (.cond (.t t) x y) Q st=cAW P G N (if t < N then st.s t else .dead) x y Q st:=by
 simp only [AW,b95]
 by_cases h:t < N
 ·simp only [h,if_true]
  cases hs:st.s t<;>simp only [cAW]
  rename_i v
  cases v<;>simp only [cAW]
  rename_i b
  cases b<;>simp
 ·simp [h,cAW]
@[go_sem] theorem d7s {b:Bool}:AW P G N (.cond (.c (.bool b)) x y) Q st=cAW P G N (.lit (.bool b)) x y Q st:=by
 cases b<;>simp [AW,b95,cAW]
end
@[go_sem] theorem e79:b1n K Q .normal st=K st:=(rfl)
@[go_sem] theorem e78 {id:Nat}:b1n K Q (.exit id) st=Q (.exit id) st:=(rfl)
@[go_sem] theorem e8a:b1n K Q .ret st=Q .ret st:=(rfl)
@[go_sem] theorem d8f {id:Nat}:a8s id Q .normal st=Q .normal st:=(rfl)
@[go_sem] theorem d8g {id:Nat}:a8s id Q .ret st=Q .ret st:=(rfl)
@[go_sem] theorem d8e {id id':Nat}:a8s id Q (.exit id') st=if id'=id then Q .normal st else Q (.exit id') st:=(rfl)
@[go_sem] theorem d4y:a7c Q .normal st=Q .normal st:=(rfl)
@[go_sem] theorem d4z:a7c Q .ret st=Q .ret st:=(rfl)
@[go_sem] theorem d4x {id:Nat}:a7c Q (.exit id) st=Q (.exit id) st:=(rfl)
@[go_sem] theorem e9z {rs:List ResultVar} {res:AV}:c74 P N rs res .normal st=(b01 P N st rs=some res):=(rfl)
@[go_sem] theorem e90 {rs:List ResultVar} {res:AV}:c74 P N rs res .ret st=(b01 P N st rs=some res):=(rfl)
end
def gO {α:Type} (p:Prop) [Decidable p] (o:Option α):Option α:=if p then o else none
theorem d3g {α:Type} {p:Prop} [Decidable p] {o:Option α} (h:p):gO p o=o:=by simp [gO,h]
@[congr] theorem d9l {α:Type} {p p':Prop} [Decidable p] [Decidable p'] {o:Option α} (h:p=p'):gO p o=gO p' o:=by subst h; simp only [gO]; split<;>rfl
@[go_sem] theorem e4w {α:Type} [Decidable True] {o:Option α}:gO True o=o:=by simp [gO]
def b0k (st:St) (d:Nat) (o:Option AV):Option St:=match o with
 | some v=>some (st.put d v)
 | none=>none
@[congr] theorem c9m {st:St} {d:Nat} {o o':Option AV} (h:o=o'):b0k st d o=b0k st d o':=by rw [h]
@[go_sem] theorem d53 {st:St} {d:Nat} {v:AV}:b0k st d (some v)=some (st.put d v):=(rfl)
section
variable {G:GG} {N d:Nat} {st:St}
def mvS (st:St) (d:Nat) (x:X) (v:AV):Option St:=match v with
 | .own _ n _=>match x with
  | .t t=>some (st.put d (.bor t [] 0 n (st.ep t)))
  | _=>some (st.put d (.sl 0 []))
 | .var _=>match x with
  | .t t=>some (st.put d (.ref t [] 0 (st.ep t)))
  | _=>none
 | .dead=>none
 | v=>if a0j v then some (st.put d v) else match x with
  | .t t=>some ((st.set t (frz v)).put d (frz v))
  | _=>none
@[congr] theorem d4l {x:X} {v v':AV} (h:v=v'):mvS st d x v=mvS st d x v':=by rw [h]
@[go_sem] theorem d2l (x:X):evS G N (some d) (.mv x) st=mvS st d x (rdv st x):=by
 simp only [evS,a0w,mvE,Ev.run_bind,a0n,Option.bind]
 cases x<;>simp only [rdv,rde,mvS,Ev.run_bind,Ev.run,setD,a2a,Option.map,a0j,if_true]
 rename_i t
 cases h:st.s t<;>simp only [mvS,Ev.run,Ev.run_bind,setD,a2a,a9f,a99,Option.bind]<;>(try rfl)
 all_goals (generalize a0j _=b; cases b<;>rfl)
@[go_sem] theorem e57 {t n sz:Nat} {ks:List AV}:mvS st d (.t t) (.own sz n ks)=some (st.put d (.bor t [] 0 n (st.ep t))):=(rfl)
@[go_sem] theorem f08 {n sz:Nat} {ks:List AV} {k:Nat}:mvS st d (.nl k) (.own sz n ks)=some (st.put d (.sl 0 [])):=(rfl)
@[go_sem] theorem e6a {t:Nat} {ks:List AV}:mvS st d (.t t) (.var ks)=some (st.put d (.ref t [] 0 (st.ep t))):=(rfl)
@[go_sem] theorem e56 {x:X} {v:Value}:mvS st d x (.lit v)=some (st.put d (.lit v)):=(rfl)
@[go_sem] theorem f09 {x:X} {n:Nat} {ks:List AV}:mvS st d x (.sl n ks)=some (st.put d (.sl n ks)):=(rfl)
@[go_sem] theorem f07 {x:X} {n:Nat} {ks:List AV}:mvS st d x (.ip ks n)=some (st.put d (.ip ks n)):=(rfl)
@[go_sem] theorem f06 {x:X} {f:FuncId} {a b:List AV}:mvS st d x (.fn f a b)=some (st.put d (.fn f a b)):=(rfl)
@[go_sem] theorem e58 {x:X} {t:Nat} {q:List Nat} {o e:Nat}:mvS st d x (.ref t q o e)=some (st.put d (.ref t q o e)):=(rfl)
@[go_sem] theorem e54 {x:X} {t:Nat} {q:List Nat} {lo n e:Nat}:mvS st d x (.bor t q lo n e)=some (st.put d (.bor t q lo n e)):=(rfl)
def iO (b:Bool) (x y:Option St):Option St:=if b then x else y
@[congr] theorem d9r {b b':Bool} {x y:Option St} (h:b=b'):iO b x y=iO b' x y:=by rw [h]
@[go_sem] theorem f4t {x y:Option St}:iO true x y=x:=(rfl)
@[go_sem] theorem f4s {x y:Option St}:iO false x y=y:=(rfl)
@[go_sem] theorem e53 {t:Nat} {ks:List AV}:mvS st d (.t t) (.agg ks)=iO (a0k ks) (some (st.put d (.agg ks))) (some ((st.set t (.agg (a1b ks))).put d (.agg (a1b ks)))):=(rfl)
@[go_sem] theorem e59 {t:Nat} {ks:List AV}:mvS st d (.t t) (.tup ks)=iO (a0k ks) (some (st.put d (.tup ks))) (some ((st.set t (.tup (a1b ks))).put d (.tup (a1b ks)))):=(rfl)
@[go_sem] theorem e55 {t:Nat} {T:TypeId} {k:AV}:mvS st d (.t t) (.ifc T k)=iO (a0j k) (some (st.put d (.ifc T k))) (some ((st.set t (.ifc T (frz k))).put d (.ifc T (frz k)))):=(rfl)
def c3v (st:St) (N d t:Nat) (q:List Nat) (lo n:Nat) (k:Option AV):Option St:=match k with
 | some (.own sz n0 ks)=>gO (t < N/\lo+n<=n0) (iO (q.isEmpty&&lo==0) (some ((st.put t .dead).thru N d (.own sz n (ks.take (n*sz))))) (some ((st.set t (a0h (st.s t) q (frz (.own sz n0 ks)))).put d (.sl n (((a1b ks).drop (lo*sz)).take (n*sz))))))
 | _=>none
@[congr] theorem c6z {t:Nat} {q:List Nat} {lo n:Nat} {k k':Option AV} (h:k=k'):c3v st N d t q lo n k=c3v st N d t q lo n k':=by rw [h]
@[go_sem] theorem d71 {t:Nat} {q:List Nat} {lo n sz n0:Nat} {ks:List AV}:c3v st N d t q lo n (some (.own sz n0 ks))=gO (t < N/\lo+n<=n0) (iO (q.isEmpty&&lo==0) (some ((st.put t .dead).thru N d (.own sz n (ks.take (n*sz))))) (some ((st.set t (a0h (st.s t) q (frz (.own sz n0 ks)))).put d (.sl n (((a1b ks).drop (lo*sz)).take (n*sz)))))):=(rfl)
def a1j (st:St) (t:Nat) (q:List Nat) (e:Nat):Option AV:=if e=st.ep t then a0c (st.s t) q else none
def eN (b:Bool) (k:Option AV):Option AV:=if b then k else none
@[go_sem] theorem f4p (k:Option AV):eN true k=k:=(rfl)
@[go_sem] theorem d8h {t:Nat} {q:List Nat} {e:Nat}:a1j st t q e=eN (e==st.ep t) (a0c (st.s t) q):=by
 simp only [a1j,eN]; by_cases h:e=st.ep t<;>simp [h]
@[congr] theorem d8s {b b':Bool} {k k':Option AV} (h:b=b') (h2:k=k'):eN b k=eN b' k':=by rw [h,h2]
@[go_sem] theorem c87 {v:AV}:a0c v []=some v:=(rfl)
def c07 (k:Option AV) (q:List Nat):Option AV:=match k with
 | some k=>a0c k q
 | none=>none
@[go_sem] theorem c9a {k:AV} {q:List Nat}:c07 (some k) q=a0c k q:=(rfl)
@[go_sem] theorem c88 {sz n i:Nat} {ks:List AV} {q:List Nat}:a0c (.own sz n ks) (i::q)=c07 ks[i]? q:=by
 simp only [a0c,a0l,c07]
 cases ks[i]? <;>rfl
@[go_sem] theorem c89 {i:Nat} {ks:List AV} {q:List Nat}:a0c (.var ks) (i::q)=c07 ks[i]? q:=by
 simp only [a0c,a0l,c07]
 cases ks[i]? <;>rfl
@[go_sem] theorem c6h {v k:AV}:a0h v [] k=k:=(rfl)
def d60 (k:Option AV) (q:List Nat) (k':AV):AV:=match k with
 | some k=>a0h k q k'
 | none=> .dead
@[go_sem] theorem d61 {k k':AV} {q:List Nat}:d60 (some k) q k'=a0h k q k':=(rfl)
theorem b31 {ks:List AV} {i:Nat} {v:AV} (h:ks[i]? =none):ks.set i v=ks:=by
 apply List.set_eq_of_length_le; simpa using h
@[go_sem] theorem c6i {sz n i:Nat} {ks:List AV} {q:List Nat} {k':AV}:a0h (.own sz n ks) (i::q) k'= .own sz n (ks.set i (d60 ks[i]? q k')):=by
 simp only [a0h,a0l,d60]
 cases h:ks[i]? with
 | none=>simp [b31 h]
 | some k=>rfl
@[go_sem] theorem c6j {i:Nat} {ks:List AV} {q:List Nat} {k':AV}:a0h (.var ks) (i::q) k'= .var (ks.set i (d60 ks[i]? q k')):=by
 simp only [a0h,a0l,d60]
 cases h:ks[i]? with
 | none=>simp [b31 h]
 | some k=>rfl
def e2q (st:St) (N d:Nat) (x:X) (v:AV):Option St:=if a0j v then some (st.put d v) else match x with
  | .t t=>some ((st.put t .dead).thru N d v)
  | _=>some (st.thru N d v)
def b27 (st:St) (N d:Nat) (x:X) (v:AV):Option St:=match v with
 | .dead=>none
 | .bor t q lo n e=>c3v st N d t q lo n (a1j st t q e)
 | v=>e2q st N d x v
@[congr] theorem c61 {x:X} {v v':AV} (h:v=v'):b27 st N d x v=b27 st N d x v':=by rw [h]
theorem a57 {v:AV}:(a26 N (some d) v).run st=some ((),st.thru N d v):=rfl
@[go_sem] theorem c5h (x:X):evS G N (some d) (.asg x) st=b27 st N d x (rdv st x):=by
 have key:∀ (v:AV) (e:Nat),((match v with
   | .dead=>Ev.fail
   | .bor t q lo n e=>do
    let r2<-a9g t
    a0f (e==r2.2&&decide (t < N))
    let k<-a2r (a0c r2.1 q)
    match k with
    | .own sz n0 ks=>do
     a0f (decide (lo+n<=n0))
     if q.isEmpty&&lo==0 then do
      a2a t .dead
      a26 N (some d) (.own sz n (ks.take (n*sz)))
     else do
      a9f t (a0h r2.1 q (frz k))
      setD (some d) (.sl n (((a1b ks).drop (lo*sz)).take (n*sz)))
    | _=> .fail
   | v=>a66 N (some d) x v:Ev Unit).run st).map (·.2)=b27 st N d x v:=by
  intro v e
  have tail:∀ v:AV,(∀ t q lo n e,v≠ .bor t q lo n e)->v≠ .dead->((a66 N (some d) x v).run st).map (·.2)=e2q st N d x v:=by
   intro v _ _
   cases x<;>simp only [a66,e2q]<;>(split<;>rfl)
  cases v<;>(try (exact tail _ (by simp) (by simp)))
  ·rfl
  ·rename_i t q lo n e'
   simp only [b27,a1j,Ev.run_bind,a07,Option.bind]
   by_cases he:e'=st.ep t
   ·subst he
    by_cases ht:t < N
    ·simp only [beq_self_eq_true,ht,decide_true,Bool.and_self,a0f,if_true,Ev.run,a0q]
     cases hk:a0c (st.s t) q with
     | none=>rfl
     | some k=>
      simp only [Option.map]
      cases k<;>try rfl
      rename_i sz n0 ks
      simp only [c3v,gO,iO,ht,true_and,Ev.run_bind,a0d,Option.bind]
      by_cases hl:lo+n<=n0
      ·simp only [hl,decide_true,if_true]
       generalize (q.isEmpty&&lo==0)=b
       cases b<;>rfl
      ·simp only [hl,decide_false,Bool.false_eq_true,if_false]
       rfl
    ·simp only [ht,decide_false,Bool.and_false,a0f,Bool.false_eq_true,if_false,Ev.run,if_true]
     cases a0c (st.s t) q with
     | none=>rfl
     | some k=>cases k<;>simp [c3v,gO,ht]
   ·have:(e'==st.ep t)=false:=by simpa using he
    simp only [this,Bool.false_and,a0f,Bool.false_eq_true,if_false,Ev.run,he,c3v,Option.map]
 simp only [evS,a0w,c60,Ev.run_bind,a0n,Option.bind]
 exact key _ 0
@[go_sem] theorem e39 (x:X):evS G N (some d) (.mvf x) st=mvS st d x (rdv st x):=d2l (G:=G) (N:=N) x
@[go_sem] theorem e38 (x:X):evS G N (some d) (.mva x) st=b27 st N d x (rdv st x):=c5h (G:=G) x
@[go_sem] theorem d75 {x:X} {v:Value}:b27 st N d x (.lit v)=some (st.put d (.lit v)):=(rfl)
@[go_sem] theorem e2p {x:X} {n:Nat} {ks:List AV}:b27 st N d x (.sl n ks)=some (st.put d (.sl n ks)):=(rfl)
@[go_sem] theorem e2n {x:X} {n:Nat} {ks:List AV}:b27 st N d x (.ip ks n)=some (st.put d (.ip ks n)):=(rfl)
@[go_sem] theorem e2m {x:X} {f:FuncId} {a b:List AV}:b27 st N d x (.fn f a b)=some (st.put d (.fn f a b)):=(rfl)
@[go_sem] theorem d77 {x:X} {t:Nat} {q:List Nat} {o e:Nat}:b27 st N d x (.ref t q o e)=some (st.put d (.ref t q o e)):=(rfl)
@[go_sem] theorem d73 {x:X} {t:Nat} {q:List Nat} {lo n e:Nat}:b27 st N d x (.bor t q lo n e)=c3v st N d t q lo n (a1j st t q e):=(rfl)
@[go_sem] theorem d76 {t sz n:Nat} {ks:List AV}:b27 st N d (.t t) (.own sz n ks)=some ((st.put t .dead).thru N d (.own sz n ks)):=(rfl)
@[go_sem] theorem e2o {k sz n:Nat} {ks:List AV}:b27 st N d (.nl k) (.own sz n ks)=some (st.thru N d (.own sz n ks)):=(rfl)
@[go_sem] theorem d79 {t:Nat} {ks:List AV}:b27 st N d (.t t) (.var ks)=some ((st.put t .dead).thru N d (.var ks)):=(rfl)
@[go_sem] theorem d72 {t:Nat} {ks:List AV}:b27 st N d (.t t) (.agg ks)=iO (a0k ks) (some (st.put d (.agg ks))) (some ((st.put t .dead).thru N d (.agg ks))):=(rfl)
@[go_sem] theorem d78 {t:Nat} {ks:List AV}:b27 st N d (.t t) (.tup ks)=iO (a0k ks) (some (st.put d (.tup ks))) (some ((st.put t .dead).thru N d (.tup ks))):=(rfl)
@[go_sem] theorem d74 {t:Nat} {T:TypeId} {k:AV}:b27 st N d (.t t) (.ifc T k)=iO (a0j k) (some (st.put d (.ifc T k))) (some ((st.put t .dead).thru N d (.ifc T k))):=(rfl)
@[go_sem] theorem e3x {b:BinOp} {T kd:Nat} {x y:X} {yT:TypeId}:evS G N (some d) (.bin b T kd x y yT) st=b0k st d (a2e b kd (rdv st x) (rdv st y)):=by
 simp only [evS,a0w,Ev.run_bind,a0n,Option.bind,a0q]
 cases a2e b kd (rdv st x) (rdv st y)<;>rfl
theorem a4q (x:X):(b38 x).run st=match rdv st x with | .lit v=>some (v,st) | _=>none:=by
 simp only [b38,Ev.run_bind,a0n,Option.bind]
 cases rdv st x<;>rfl
def c8z (v:AV):Option Value:=match v with | .lit v=>some v | _=>none
@[go_sem] theorem d94 {v:Value}:c8z (.lit v)=some v:=(rfl)
theorem b5o (x:X):(b38 x).run st=(c8z (rdv st x)).map fun v=>(v,st):=by
 rw [a4q]; cases rdv st x<;>rfl
def unO (u:UnOp) (v:AV):Option AV:=match v with
 | .lit v=>(a55 (Op.unary u v)).map .lit
 | _=>none
@[congr] theorem d7n {u:UnOp} {v v':AV} (h:v=v'):unO u v=unO u v':=by rw [h]
@[go_sem] theorem e95 {u:UnOp} {T:TypeId} {x:X}:evS G N (some d) (.un u T x) st=b0k st d (unO u (rdv st x)):=by
 simp only [evS,a0w,Ev.run_bind,a4q,Option.bind]
 cases rdv st x<;>try rfl
 rename_i v
 simp only [unO,a0q]
 cases a55 (Op.unary u v)<;>rfl
@[go_sem] theorem e8j {b:Bool}:unO .not (.lit (.bool b))=some (.lit (.bool !b)):=(rfl)
def c28 (c x y:AV):Option AV:=match c with
 | .lit c=>b8d c x y
 | _=>none
@[go_sem] theorem d9a {c x y:X}:evS G N (some d) (.pick c x y) st=b0k st d (c28 (rdv st c) (rdv st x) (rdv st y)):=by
 simp only [evS,a0w,Ev.run_bind,a4q,Option.bind,a0n]
 cases rdv st c<;>try rfl
 simp only [a0n,c28,a0q]
 rename_i v
 cases b8d v (rdv st x) (rdv st y)<;>rfl
@[go_sem] theorem e6r {u:Value} {y:AV}:c28 (.lit (.bool true)) (.lit u) y=some (.lit u):=by cases y<;>rfl
@[go_sem] theorem e6q {u:Value} {x:AV}:c28 (.lit (.bool false)) x (.lit u)=some (.lit u):=by cases x<;>rfl
@[go_sem] theorem d2d {T:TypeId} {zs:List AV}:evS G N (some d) (.alloc T zs) st=some (st.thru N d (.var zs)):=(rfl)
def c8u (lo n:Nat) (k:Option AV):Option AV:=match k with
 | some (.own _ n0 _)=>gO (lo+n<=n0) (some (.lit (.int .i64 n)))
 | _=>none
@[congr] theorem c8v {lo n:Nat} {k k':Option AV} (h:k=k'):c8u lo n k=c8u lo n k':=by rw [h]
@[go_sem] theorem d9z {lo n sz n0:Nat} {ks:List AV}:c8u lo n (some (.own sz n0 ks))=gO (lo+n<=n0) (some (.lit (.int .i64 n))):=(rfl)
def c5x (st:St) (x:X) (v:AV):Option AV:=match v with
 | .sl n _=>some (.lit (.int .i64 n))
 | .own _ n _=>some (.lit (.int .i64 n))
 | .bor t q lo n e=>c8u lo n (a1j st t q e)
 | _=>none
@[congr] theorem c8w {x:X} {v v':AV} (h:v=v'):c5x st x v=c5x st x v':=by rw [h]
theorem b4s {t:Nat} {q:List Nat} {e:Nat} (h:e=st.ep t):a1j st t q e=a0c (st.s t) q:=by simp [a1j,h]
theorem b4r {t:Nat} {q:List Nat} {e:Nat} (h:¬ e=st.ep t):a1j st t q e=none:=by simp [a1j,h]
@[go_sem] theorem e32 {T:TypeId} {x:X}:evS G N (some d) (.len T false x) st=b0k st d (c5x st x (rdv st x)):=by
 simp only [evS,a0w,Ev.run_bind,a0n,Option.bind]
 cases hv:rdv st x<;>simp only [a5x,Ev.run_bind,a0n,hv,Option.bind,Ev.run]<;>try rfl
 rename_i t q lo n e
 simp only [c5x,a07]
 by_cases he:e=st.ep t
 ·simp only [he,beq_self_eq_true,a0f,if_true,Ev.run,Ev.run_pure,c06,Ev.run_bind,a07,Option.bind,a0q,b4s]
  cases hk:a0c (st.s t) q with
  | none=>rfl
  | some k=>
   cases k<;>try rfl
   rename_i sz n0 ks
   simp only [c8u,gO,Option.map,Ev.run_bind,a0d,Option.bind]
   by_cases hl:lo+n<=n0
   ·simp only [hl,decide_true,if_true]; rfl
   ·simp only [hl,decide_false,Bool.false_eq_true,if_false]; rfl
 ·have:(e==st.ep t)=false:=by simpa using he
  simp only [this,a0f,Bool.false_eq_true,if_false,Ev.run,b4r he]
  rfl
@[go_sem] theorem e5p {x:X} {n:Nat} {ks:List AV}:c5x st x (.sl n ks)=some (.lit (.int .i64 n)):=(rfl)
@[go_sem] theorem d91 {x:X} {sz n:Nat} {ks:List AV}:c5x st x (.own sz n ks)=some (.lit (.int .i64 n)):=(rfl)
@[go_sem] theorem d90 {x:X} {t:Nat} {q:List Nat} {lo n e:Nat}:c5x st x (.bor t q lo n e)=c8u lo n (a1j st t q e):=(rfl)
def f2b (v:AV):Option AV:=match v with
 | .lit (.string s)=>some (.lit (.int .i64 s.size))
 | _=>none
@[go_sem] theorem f2c {s:ByteArray}:f2b (.lit (.string s))=some (.lit (.int .i64 s.size)):=(rfl)
@[go_sem] theorem c8c {T:TypeId} {x:X}:evS G N (some d) (.len T true x) st=b0k st d (f2b (rdv st x)):=by
 simp only [evS,a0w,Ev.run_bind,a4q,Option.bind]
 cases rdv st x<;>try rfl
 rename_i v
 cases v<;>rfl
@[go_sem] theorem d6i {v:AV}:a2u v []=a0l v:=by cases v<;>rfl
def d6l (k:Option AV) (q:List Nat):Option (List AV):=match k with
 | some k=>a2u k q
 | none=>none
@[go_sem] theorem d6m {k:AV} {q:List Nat}:d6l (some k) q=a2u k q:=(rfl)
@[go_sem] theorem d6j {sz n i:Nat} {ks:List AV} {q:List Nat}:a2u (.own sz n ks) (i::q)=d6l ks[i]? q:=by
 simp only [a2u,a0l,d6l]; cases ks[i]? <;>rfl
@[go_sem] theorem d6k {i:Nat} {ks:List AV} {q:List Nat}:a2u (.var ks) (i::q)=d6l ks[i]? q:=by
 simp only [a2u,a0l,d6l]; cases ks[i]? <;>rfl
@[go_sem] theorem c95 {sz n:Nat} {ks ks':List AV}:setRow (.own sz n ks) [] ks'= .own sz n ks':=(rfl)
@[go_sem] theorem c96 {ks ks':List AV}:setRow (.var ks) [] ks'= .var ks':=(rfl)
def c1i (k:Option AV) (q:List Nat) (ks':List AV):AV:=match k with
 | some k=>setRow k q ks'
 | none=> .dead
@[go_sem] theorem c94 {k:AV} {q:List Nat} {ks':List AV}:c1i (some k) q ks'=setRow k q ks':=(rfl)
@[go_sem] theorem c6k {sz n i:Nat} {ks:List AV} {q:List Nat} {ks':List AV}:setRow (.own sz n ks) (i::q) ks'= .own sz n (ks.set i (c1i ks[i]? q ks')):=by
 simp only [setRow,a0l,c1i]
 cases h:ks[i]? with
 | none=>simp [b31 h]
 | some k=>rfl
@[go_sem] theorem c6l {i:Nat} {ks:List AV} {q:List Nat} {ks':List AV}:setRow (.var ks) (i::q) ks'= .var (ks.set i (c1i ks[i]? q ks')):=by
 simp only [setRow,a0l,c1i]
 cases h:ks[i]? with
 | none=>simp [b31 h]
 | some k=>rfl
def eR (b:Bool) (k:Option (List AV)):Option (List AV):=if b then k else none
@[congr] theorem d8t {b b':Bool} {k k':Option (List AV)} (h:b=b') (h2:k=k'):eR b k=eR b' k':=by rw [h,h2]
@[go_sem] theorem f4q (k:Option (List AV)):eR true k=k:=(rfl)
def ptO (t:Nat) (q:List Nat) (o:Nat) (r:Option (List AV)):Option (Nat×List Nat×Nat×List AV):=match r with
 | some ks=>gO (o < ks.length) (some (t,q,o,ks))
 | none=>none
@[go_sem] theorem e1b {t:Nat} {q:List Nat} {o:Nat} {ks:List AV}:ptO t q o (some ks)=gO (o < ks.length) (some (t,q,o,ks)):=(rfl)
def a5k (st:St) (x:X) (v:AV):Option (Nat×List Nat×Nat×List AV):=match v with
 | .var ks=>match x with
  | .t t=>ptO t [] 0 (some ks)
  | _=>none
 | .ref t q o e=>ptO t q o (eR (e==st.ep t) (a2u (st.s t) q))
 | _=>none
@[congr] theorem c9w {x:X} {v v':AV} (h:v=v'):a5k st x v=a5k st x v':=by rw [h]
@[go_sem] theorem e1t {t:Nat} {ks:List AV}:a5k st (.t t) (.var ks)=gO (0 < ks.length) (some (t,[],0,ks)):=(rfl)
@[go_sem] theorem e1s {x:X} {t:Nat} {q:List Nat} {o e:Nat}:a5k st x (.ref t q o e)=ptO t q o (eR (e==st.ep t) (a2u (st.s t) q)):=(rfl)
theorem a5m (x:X):(b8h x).run st=(a5k st x (rdv st x)).map fun r=>((r.1,r.2.1,r.2.2.1,st.s r.1,st.ep r.1,r.2.2.2),st):=by
 simp only [b8h,b6h,Ev.run_bind,a0n,Option.bind]
 cases x with
 | t n=>
  simp only [rdv]
  cases hv:st.s n<;>simp only [a99,Ev.run,Ev.run_bind,Ev.run_pure,Option.bind,a07,a5k,a0q,Option.map]<;>try rfl
  ·rename_i ks
   have h2:a2u (AV.var ks) []=some ks:=rfl
   simp only [hv,h2,ptO,gO,a0d]
   by_cases hl:0 < ks.length
   ·simp only [hl,decide_true,if_true,hv]
   ·simp only [hl,decide_false,Bool.false_eq_true,if_false]
  ·rename_i t q o e
   by_cases he:e=st.ep t
   ·simp only [he,beq_self_eq_true,a0f,if_true,Ev.run,Ev.run_pure,eR]
    cases hk:a2u (st.s t) q with
    | none=>rfl
    | some ks=>
     simp only [ptO,gO]
     by_cases hl:o < ks.length
     ·simp only [hl,decide_true,if_true,Ev.run]
     ·simp only [hl,decide_false,Bool.false_eq_true,if_false,Ev.run]
   ·have:(e==st.ep t)=false:=by simpa using he
    simp only [this,a0f,Bool.false_eq_true,if_false,Ev.run,eR,ptO]
 | c v=>rfl
 | nl n=>rfl
 | g n=>rfl
 | f n=>rfl
def ldK (st:St) (t:Nat) (q:List Nat) (o:Nat) (k:Option AV):Option AV:=match k with
 | some (.own _ n _)=>some (.bor t (q++[o]) 0 n (st.ep t))
 | some (.mp _ _)=>some (.bor t (q++[o]) 0 0 (st.ep t))
 | some k=>if a0j k then some k else none
 | none=>none
@[congr] theorem d31 {t:Nat} {q:List Nat} {o:Nat} {k k':Option AV} (h:k=k'):ldK st t q o k=ldK st t q o k':=by rw [h]
section
variable {t:Nat} {q:List Nat} {o:Nat}
@[go_sem] theorem e5o {sz n:Nat} {ks:List AV}:ldK st t q o (some (.own sz n ks))=some (.bor t (q++[o]) 0 n (st.ep t)):=(rfl)
@[go_sem] theorem f0z {a:List Int} {b:List AV}:ldK st t q o (some (.mp a b))=some (.bor t (q++[o]) 0 0 (st.ep t)):=(rfl)
@[go_sem] theorem e5n {v:Value}:ldK st t q o (some (.lit v))=some (.lit v):=(rfl)
@[go_sem] theorem f00 {n:Nat} {ks:List AV}:ldK st t q o (some (.sl n ks))=some (.sl n ks):=(rfl)
@[go_sem] theorem f0y {n:Nat} {ks:List AV}:ldK st t q o (some (.ip ks n))=some (.ip ks n):=(rfl)
@[go_sem] theorem f0x {f:FuncId} {a b:List AV}:ldK st t q o (some (.fn f a b))=some (.fn f a b):=(rfl)
@[go_sem] theorem d32 {T:TypeId} {n:Nat} {ks:List AV}:ldK st t q o (some (.ifc T (.ip ks n)))=some (.ifc T (.ip ks n)):=(rfl)
end
def ldS (st:St) (d:Nat) (r:Option (Nat×List Nat×Nat×List AV)):Option St:=match r with
 | some (t,q,o,ks)=>b0k st d (ldK st t q o ks[o]?)
 | none=>none
@[congr] theorem d33 {r r':Option (Nat×List Nat×Nat×List AV)} (h:r=r'):ldS st d r=ldS st d r':=by rw [h]
@[go_sem] theorem d9y {t:Nat} {q:List Nat} {o:Nat} {ks:List AV}:ldS st d (some (t,q,o,ks))=b0k st d (ldK st t q o ks[o]?):=(rfl)
def ipK (k:Option AV):Option AV:=match k with
 | some k=>if a0j k then some k else none
 | none=>none
@[go_sem] theorem e5k {v:Value}:ipK (some (.lit v))=some (.lit v):=(rfl)
@[go_sem] theorem f0u {n:Nat} {ks:List AV}:ipK (some (.sl n ks))=some (.sl n ks):=(rfl)
@[go_sem] theorem f0t {n:Nat} {ks:List AV}:ipK (some (.ip ks n))=some (.ip ks n):=(rfl)
@[go_sem] theorem f0s {f:FuncId} {a b:List AV}:ipK (some (.fn f a b))=some (.fn f a b):=(rfl)
@[go_sem] theorem d3p {T:TypeId} {n:Nat} {ks:List AV}:ipK (some (.ifc T (.ip ks n)))=some (.ifc T (.ip ks n)):=(rfl)
def b3p (G:GG) (st:St) (d:Nat) (x:X) (v:AV):Option St:=match v with
 | .lit (.pointer (some ⟨g,0,none⟩))=>b0k st d ((G g).map .lit)
 | .ip ks off=>b0k st d (ipK ks[off]?)
 | v=>ldS st d (a5k st x v)
@[congr] theorem c50 {x:X} {v v':AV} (h:v=v'):b3p G st d x v=b3p G st d x v':=by rw [h]
theorem c1d (x:X):((b46 (some d) none x).run st).map (·.2)=ldS st d (a5k st x (rdv st x)):=by
 simp only [b46,Ev.run_bind,a5m,Option.bind,ldS]
 cases a5k st x (rdv st x) with
 | none=>rfl
 | some r=>
  obtain ⟨t,q,o,ks⟩:=r
  simp only [Option.map,a0q]
  cases ks[o]? with
  | none=>rfl
  | some k=>
   simp only
   cases k<;>simp only [a8w,ldK,Ev.run_bind,a0d,Option.bind]<;>first | rfl | (generalize a0j _=b; cases b<;>rfl)
@[go_sem] theorem d87 {T:TypeId} {x:X}:evS G N (some d) (.load T none x) st=b3p G st d x (rdv st x):=by
 simp only [evS,a0w,Ev.run_bind,a0n,Option.bind]
 have h:=c1d (d:=d) (st:=st) x
 cases hv:rdv st x<;>rw [hv] at h<;>try exact h
 ·rename_i v
  unfold b3p
  split<;>split<;>simp_all
  generalize G _=r
  cases r<;>rfl
 ·rename_i ks off
  simp only [b3p,Ev.run_bind,a0q,Option.bind,Option.map]
  cases ks[off]? with
  | none=>rfl
  | some k=>
   simp only [Ev.run_bind,a0d,Option.bind,ipK]
   generalize a0j k=b
   cases b<;>rfl
@[go_sem] theorem e5x {x:X} {g:Nat}:b3p G st d x (.lit (.pointer (some ⟨g,0,none⟩)))=b0k st d ((G g).map .lit):=(rfl)
@[go_sem] theorem e0a {x:X} {ks:List AV} {off:Nat}:b3p G st d x (.ip ks off)=b0k st d (ipK ks[off]?):=(rfl)
@[go_sem] theorem d4a {x:X} {ks:List AV}:b3p G st d x (.var ks)=ldS st d (a5k st x (.var ks)):=(rfl)
@[go_sem] theorem d39 {x:X} {t:Nat} {q:List Nat} {o e:Nat}:b3p G st d x (.ref t q o e)=ldS st d (a5k st x (.ref t q o e)):=(rfl)
def lmS (st:St) (d s:Nat) (r:Option (Nat×List Nat×Nat×List AV)):Option St:=match r with
 | some (t,q,o,ks)=>gO (o+s<=ks.length) (iO (a0k ((ks.drop o).take s)) (some (st.put d (.agg ((ks.drop o).take s)))) (some ((st.set t (setRow (st.s t) q (a0o ks o (a1b ((ks.drop o).take s))))).put d (.agg (a1b ((ks.drop o).take s))))))
 | none=>none
@[congr] theorem d35 {s:Nat} {r r':Option (Nat×List Nat×Nat×List AV)} (h:r=r'):lmS st d s r=lmS st d s r':=by rw [h]
@[go_sem] theorem d95 {s t:Nat} {q:List Nat} {o:Nat} {ks:List AV}:lmS st d s (some (t,q,o,ks))=gO (o+s<=ks.length) (iO (a0k ((ks.drop o).take s)) (some (st.put d (.agg ((ks.drop o).take s)))) (some ((st.set t (setRow (st.s t) q (a0o ks o (a1b ((ks.drop o).take s))))).put d (.agg (a1b ((ks.drop o).take s)))))):=(rfl)
def lmX (st:St) (d s:Nat) (x:X) (v:AV):Option St:=match v with
 | .ip ks off=>gO (off+s<=ks.length/\a0k ((ks.drop off).take s)=true) (some (st.put d (.agg ((ks.drop off).take s))))
 | v=>lmS st d s (a5k st x v)
@[congr] theorem d36 {s:Nat} {x:X} {v v':AV} (h:v=v'):lmX st d s x v=lmX st d s x v':=by rw [h]
@[go_sem] theorem f04 {s:Nat} {x:X} {ks:List AV} {off:Nat}:lmX st d s x (.ip ks off)=gO (off+s<=ks.length/\a0k ((ks.drop off).take s)=true) (some (st.put d (.agg ((ks.drop off).take s)))):=(rfl)
@[go_sem] theorem e5w {s:Nat} {x:X} {ks:List AV}:lmX st d s x (.var ks)=lmS st d s (a5k st x (.var ks)):=(rfl)
@[go_sem] theorem e5v {s:Nat} {x:X} {t:Nat} {q:List Nat} {o e:Nat}:lmX st d s x (.ref t q o e)=lmS st d s (a5k st x (.ref t q o e)):=(rfl)
theorem b9i (x:X) (s:Nat):((b46 (some d) (some s) x).run st).map (·.2)=lmS st d s (a5k st x (rdv st x)):=by
 simp only [b46,Ev.run_bind,a5m,Option.bind,lmS]
 cases a5k st x (rdv st x) with
 | none=>rfl
 | some r=>
  obtain ⟨t,q,o,ks⟩:=r
  simp only [Option.map,Ev.run_bind,a0d,Option.bind,gO]
  by_cases hl:o+s<=ks.length
  ·simp only [hl,decide_true,if_true,iO]
   generalize a0k _=b
   cases b<;>rfl
  ·simp only [hl,decide_false,Bool.false_eq_true,if_false]
@[go_sem] theorem d2j {T:TypeId} {x:X} {s:Nat}:evS G N (some d) (.load T (some s) x) st=lmX st d s x (rdv st x):=by
 simp only [evS,a0w,Ev.run_bind,a0n,Option.bind]
 have h:=b9i (d:=d) (st:=st) x s
 cases hv:rdv st x<;>rw [hv] at h<;>try exact h
 ·split<;>simp_all<;>rfl
 rename_i ks off
 simp only [lmX,Ev.run_bind,a0d,Option.bind,Option.map,gO]
 by_cases hl:off+s<=ks.length
 ·simp only [hl,decide_true,Bool.true_and,true_and]
  generalize a0k _=b
  cases b<;>rfl
 ·simp only [hl,decide_false,Bool.false_and,Bool.false_eq_true,if_false,false_and]
def c1x (st:St) (d:Nat) (x:X) (v:AV):Option St:=match v with
 | .ip ks o=>some (st.put d (.ip ks o))
 | .fn f a b=>some (st.put d (.fn f a b))
 | v=>match a5k st x v with
  | some (t,q,o,ks)=>some (st.put d (.ref t q o (st.ep t)))
  | none=>none
def b89 (st:St) (d off:Nat) (r:Option (Nat×List Nat×Nat×List AV)):Option St:=match r with
 | some (t,q,o,ks)=>some (st.put d (.ref t q (o+off) (st.ep t)))
 | none=>none
@[congr] theorem c84 {off:Nat} {r r':Option (Nat×List Nat×Nat×List AV)} (h:r=r'):b89 st d off r=b89 st d off r':=by rw [h]
@[go_sem] theorem d4o {off t:Nat} {q:List Nat} {o:Nat} {ks:List AV}:b89 st d off (some (t,q,o,ks))=some (st.put d (.ref t q (o+off) (st.ep t))):=(rfl)
@[congr] theorem c85 {x:X} {v v':AV} (h:v=v'):c1x st d x v=c1x st d x v':=by rw [h]
@[go_sem] theorem d2m {x:X}:evS G N (some d) (.nilck x) st=c1x st d x (rdv st x):=by
 simp only [evS,a0w,Ev.run_bind,a0n,Option.bind]
 cases hv:rdv st x<;>simp only [c1x,Ev.run_bind,a5m,Option.bind,hv]<;>try rfl
 ·generalize a5k st x _=r; cases r<;>rfl
 ·generalize a5k st x _=r; cases r<;>rfl
@[go_sem] theorem e6c {x:X} {ks:List AV} {o:Nat}:c1x st d x (.ip ks o)=some (st.put d (.ip ks o)):=(rfl)
@[go_sem] theorem e6b {x:X} {f:FuncId} {a b:List AV}:c1x st d x (.fn f a b)=some (st.put d (.fn f a b)):=(rfl)
@[go_sem] theorem e0k {x:X} {ks:List AV}:c1x st d x (.var ks)=b89 st d 0 (a5k st x (.var ks)):=by
 simp only [c1x,b89]; cases a5k st x (.var ks)<;>rfl
@[go_sem] theorem e0j {x:X} {t:Nat} {q:List Nat} {o e:Nat}:c1x st d x (.ref t q o e)=b89 st d 0 (a5k st x (.ref t q o e)):=by
 simp only [c1x,b89]; cases a5k st x (.ref t q o e)<;>rfl
def b9o (st:St) (d off:Nat) (x:X) (v:AV):Option St:=match v with
 | .ip ks o=>some (st.put d (.ip ks (o+off)))
 | v=>b89 st d off (a5k st x v)
@[congr] theorem c8g {off:Nat} {x:X} {v v':AV} (h:v=v'):b9o st d off x v=b9o st d off x v':=by rw [h]
@[go_sem] theorem d2h {T:TypeId} {off f:Nat} {x:X}:evS G N (some d) (.faddr T off x f) st=b9o st d off x (rdv st x):=by
 simp only [evS,a0w,Ev.run_bind,a0n,Option.bind]
 cases hv:rdv st x<;>simp only [b9o,Ev.run_bind,a5m,Option.bind,hv,b89]<;>try rfl
 ·generalize a5k st x _=r; cases r<;>rfl
 ·generalize a5k st x _=r; cases r<;>rfl
@[go_sem] theorem d2c {T:TypeId} {off f:Nat} {x:X}:evS G N (some d) (.aaddr T off x f) st=b9o st d off x (rdv st x):=by
 simp only [evS,a0w,Ev.run_bind,a0n,Option.bind]
 cases hv:rdv st x<;>simp only [b9o,Ev.run_bind,a5m,Option.bind,hv,b89]<;>try rfl
 ·generalize a5k st x _=r; cases r<;>rfl
 ·generalize a5k st x _=r; cases r<;>rfl
@[go_sem] theorem e4f {off:Nat} {x:X} {ks:List AV} {o:Nat}:b9o st d off x (.ip ks o)=some (st.put d (.ip ks (o+off))):=(rfl)
@[go_sem] theorem d9d {off:Nat} {x:X} {ks:List AV}:b9o st d off x (.var ks)=b89 st d off (a5k st x (.var ks)):=(rfl)
@[go_sem] theorem d9c {off:Nat} {x:X} {t:Nat} {q:List Nat} {o e:Nat}:b9o st d off x (.ref t q o e)=b89 st d off (a5k st x (.ref t q o e)):=(rfl)
end
section
variable {G:GG} {N d:Nat} {st:St}
def c5r (st:St) (N t:Nat) (q:List Nat) (lo n:Nat) (k:Option AV):Option (St×List AV):=match k with
 | some (.own sz n0 ks)=>gO (lo+n<=n0/\t < N) (some (st.set t (a0h (st.s t) q (frz (.own sz n0 ks))),[.sl n (((a1b ks).drop (lo*sz)).take (n*sz))]))
 | _=>none
@[congr] theorem c8k {t:Nat} {q:List Nat} {lo n:Nat} {k k':Option AV} (h:k=k'):c5r st N t q lo n k=c5r st N t q lo n k':=by rw [h]
@[go_sem] theorem d9m {t:Nat} {q:List Nat} {lo n sz n0:Nat} {ks:List AV}:c5r st N t q lo n (some (.own sz n0 ks))=gO (lo+n<=n0/\t < N) (some (st.set t (a0h (st.s t) q (frz (.own sz n0 ks))),[.sl n (((a1b ks).drop (lo*sz)).take (n*sz))])):=(rfl)
def c1v (st:St) (x:X) (ks:List AV):Option (St×List AV):=match x with
 | .t t=>some (st.put t .dead,ks)
 | _=>none
@[go_sem] theorem f0i {t:Nat} {ks:List AV}:c1v st (.t t) ks=some (st.put t .dead,ks):=(rfl)
def d9n (st:St) (x:X) (ks:List AV):Option (St×List AV):=match x with
 | .t t=>some (st.put t .dead,ks)
 | _=>some (st,ks)
@[go_sem] theorem f0h {t:Nat} {ks:List AV}:d9n st (.t t) ks=some (st.put t .dead,ks):=(rfl)
@[go_sem] theorem e4x {t:Nat} {ks:List AV}:d9n st (.nl t) ks=some (st,ks):=(rfl)
def giv (st:St) (N:Nat) (x:X) (v:AV):Option (St×List AV):=match v with
 | .dead=>none
 | .tup _=>none
 | .ref _ _ _ _=>none
 | .bor t q lo n e=>c5r st N t q lo n (a1j st t q e)
 | .agg ks=>c1v st x ks
 | .own sz n ks=>d9n st x [.own sz n ks]
 | .var ks=>c1v st x [frz (.var ks)]
 | .ifc T k=>c1v st x [frz (.ifc T k)]
 | .mp a b=>c1v st x [.mp a b]
 | .fn f a b=>if a3b.noRefL a&&a3b.noRefL b then some (st,[.fn f a b]) else none
 | v=>if a3b.oneAV v then some (st,[v]) else none
@[congr] theorem d3i {x:X} {v v':AV} (h:v=v'):giv st N x v=giv st N x v':=by rw [h]
theorem a87 (x:X):(a3b x N).run st=(giv st N x (rdv st x)).map fun r=>((),r.1.put N (.agg r.2)):=by
 have hbor:∀ (t:Nat) (q:List Nat) (lo n e:Nat),(do
    let r2<-a9g t
    a0f (e==r2.2)
    let k<-a2r (a0c r2.1 q)
    match k with
    | .own sz n0 ks=>do
     a0f (decide (lo+n<=n0)&&decide (t < N))
     a9f t (a0h r2.1 q (frz k))
     a2a N (.agg [.sl n (((a1b ks).drop (lo*sz)).take (n*sz))])
    | _=> .fail:Ev Unit).run st=(c5r st N t q lo n (a1j st t q e)).map fun r=>((),r.1.put N (.agg r.2)):=by
  intro t q lo n e
  simp only [a1j,Ev.run_bind,a07,Option.bind]
  by_cases he:e=st.ep t
  ·subst he
   simp only [beq_self_eq_true,a0f,if_true,Ev.run,a0q]
   cases hk:a0c (st.s t) q with
   | none=>rfl
   | some k=>
    simp only [Option.map]
    cases k<;>try rfl
    rename_i sz n0 ks
    simp only [c5r,gO,Ev.run_bind,Option.bind]
    by_cases h1:lo+n<=n0
    ·by_cases h2:t < N
     ·simp only [h1,h2,decide_true,Bool.and_self,if_true,and_self]; rfl
     ·simp only [h1,h2,decide_true,decide_false,Bool.and_false,Bool.false_eq_true,if_false,and_false]; rfl
    ·simp only [h1,decide_false,Bool.false_and,Bool.false_eq_true,if_false,false_and]; rfl
  ·have:(e==st.ep t)=false:=by simpa using he
   simp only [this,a0f,Bool.false_eq_true,if_false,Ev.run,he]
   rfl
 simp only [a3b,Ev.run_bind,a0n,Option.bind]
 cases x with
 | t n=>
  simp only [rdv]
  cases hv:st.s n<;>simp only [giv]<;>first | exact hbor _ _ _ _ _ | rfl | (simp only [Ev.run_bind,a0d,Option.bind,Option.map]; generalize (a3b.noRefL _&&a3b.noRefL _)=b; cases b<;>rfl) | (simp only [Ev.run_bind,a0d,Option.bind,Option.map]; generalize a3b.oneAV _=b; cases b<;>rfl)
 | c v=>simp only [rdv,giv,Ev.run_bind,a0d,Option.bind,Option.map]; generalize a3b.oneAV _=b; cases b<;>rfl
 | nl n=>rfl
 | g n=>rfl
 | f n=>rfl
def one (b:Bool) (r:Option (St×List AV)):Option (St×List AV):=if b then r else none
@[congr] theorem d5r {b b':Bool} {r:Option (St×List AV)} (h:b=b'):one b r=one b' r:=by rw [h]
@[go_sem] theorem f3h {r:Option (St×List AV)}:one true r=r:=(rfl)
@[go_sem] theorem e41 {x:X} {v:Value}:giv st N x (.lit v)=one v.oneCell' (some (st,[.lit v])):=(rfl)
@[go_sem] theorem f0m {x:X} {n:Nat} {ks:List AV}:giv st N x (.sl n ks)=some (st,[.sl n ks]):=(rfl)
@[go_sem] theorem f0k {x:X} {n:Nat} {ks:List AV}:giv st N x (.ip ks n)=some (st,[.ip ks n]):=(rfl)
@[go_sem] theorem f0j {x:X} {f:FuncId} {a b:List AV}:giv st N x (.fn f a b)=one (a3b.noRefL a&&a3b.noRefL b) (some (st,[.fn f a b])):=(rfl)
@[go_sem] theorem e4z {x:X} {t:Nat} {q:List Nat} {lo n e:Nat}:giv st N x (.bor t q lo n e)=c5r st N t q lo n (a1j st t q e):=(rfl)
@[go_sem] theorem e4y {x:X} {ks:List AV}:giv st N x (.agg ks)=c1v st x ks:=(rfl)
@[go_sem] theorem e42 {x:X} {sz n:Nat} {ks:List AV}:giv st N x (.own sz n ks)=d9n st x [.own sz n ks]:=(rfl)
@[go_sem] theorem e43 {x:X} {ks:List AV}:giv st N x (.var ks)=c1v st x [.ip (a1b ks) 0]:=(rfl)
@[go_sem] theorem f0l {x:X} {a:List Int} {b:List AV}:giv st N x (.mp a b)=c1v st x [.mp a b]:=(rfl)
@[go_sem] theorem e40 {x:X} {T:TypeId} {k:AV}:giv st N x (.ifc T k)=c1v st x [.ifc T (frz k)]:=(rfl)
attribute [go_sem] Value.oneCell'
def d96 (G:GG) (st:St) (N d T s t:Nat) (v:AV):Option St:=match v with
 | .var ks=>gO (t < N/\ks.length=s/\0 < s) (some ((st.set t .dead).thru N d (.agg ks)))
 | _=>evS G N (some d) (.lmv T s (.t t)) st
@[congr] theorem c80 {T s t:Nat} {v v':AV} (h:v=v'):d96 G st N d T s t v=d96 G st N d T s t v':=by rw [h]
theorem c6g {T s t:Nat} {ks:List AV} (h:st.s t= .var ks):evS G N (some d) (.lmv T s (.t t)) st=gO (t < N/\ks.length=s/\0 < s) (some ((st.set t .dead).thru N d (.agg ks))):=by
 simp only [evS,a0w,b6h,Ev.run_bind,a0n,rdv,h,Option.bind,a99,Ev.run,Ev.run_pure,a07,a0d,gO]
 by_cases h1:t < N
 ·by_cases h2:ks.length=s
  ·by_cases h3:0 < s
   ·simp only [h1,h2,h3,List.isEmpty_nil,BEq.rfl,decide_true,Bool.and_self,if_true,and_self,a9b,a57,Option.map]
   ·simp [h1,h2,h3]
  ·simp [h1,h2]
 ·simp [h1]
@[go_sem] theorem e33 {T s t:Nat}:evS G N (some d) (.lmv T s (.t t)) st=d96 G st N d T s t (st.s t):=by
 cases h:st.s t<;>first | rfl | exact c6g h
@[go_sem] theorem d97 {T s t:Nat} {ks:List AV}:d96 G st N d T s t (.var ks)=gO (t < N/\ks.length=s/\0 < s) (some ((st.set t .dead).thru N d (.agg ks))):=(rfl)
theorem a94 {v:AV} (h:nm v=false):(st.put N v).put N .dead=st.put N .dead:=by
 refine St.ext' (fun u=> ?_) (fun u=> ?_)
 ·simp only [St.put_s]; split<;>rfl
 ·have hd:nm AV.dead=false:=rfl
  simp only [St.put_ep,h,hd,Bool.false_eq_true,and_false,if_false]
def c1n (st:St) (N s:Nat) (cs:List AV) (r:Option (Nat×List Nat×Nat×List AV)):Option St:=match r with
 | some (t,q,o,ks)=>gO (cs.length=s/\0 < s/\t < N/\o+s<=ks.length) (iO (a0k cs) (some (st.set t (setRow (st.s t) q (a0o ks o cs)))) (some ((st.kill t q o s).set t (setRow (st.s t) q (a0o ks o cs)))))
 | none=>none
@[congr] theorem d0c {s:Nat} {cs:List AV} {r r':Option (Nat×List Nat×Nat×List AV)} (h:r=r'):c1n st N s cs r=c1n st N s cs r':=by rw [h]
@[go_sem] theorem d7e {s t:Nat} {q:List Nat} {o:Nat} {cs ks:List AV}:c1n st N s cs (some (t,q,o,ks))=gO (cs.length=s/\0 < s/\t < N/\o+s<=ks.length) (iO (a0k cs) (some (st.set t (setRow (st.s t) q (a0o ks o cs)))) (some ((st.kill t q o s).set t (setRow (st.s t) q (a0o ks o cs))))):=(rfl)
def d0e (st:St) (N s:Nat) (x:X) (cs:List AV):Option St:=c1n st N s cs (a5k st x (rdv st x))
@[congr] theorem d0f {s:Nat} {x:X} {cs:List AV} {st':St} (h:st=st'):d0e st N s x cs=d0e st' N s x cs:=by rw [h]
@[go_sem] theorem e75 {s:Nat} {x:X} {cs:List AV}:d0e st N s x cs=c1n st N s cs (a5k st x (rdv st x)):=(rfl)
def d7f (N s:Nat) (x:X) (r:Option (St×List AV)):Option St:=match r with
 | some (st1,cs)=>d0e (st1.put N .dead) N s x cs
 | none=>none
@[congr] theorem d0d {s:Nat} {x:X} {r r':Option (St×List AV)} (h:r=r'):d7f N s x r=d7f N s x r':=by rw [h]
@[go_sem] theorem d7g {s:Nat} {x:X} {cs:List AV}:d7f N s x (some (st,cs))=d0e (st.put N .dead) N s x cs:=(rfl)
theorem c1o {s:Nat} {cs:List AV} {r:Option (Nat×List Nat×Nat×List AV)} (h:∀ p,r=some p->¬ p.1 < N):c1n st N s cs r=none:=by
 cases r with
 | none=>rfl
 | some p=>
  obtain ⟨t,q,o,ks⟩:=p
  have:=h _ rfl
  simp only [c1n,gO]
  rw [if_neg]
  rintro ⟨_,_,h1,_⟩
  exact this h1
def e74 (N s t:Nat) (q:List Nat) (o:Nat) (v:AV) (ks:List AV):Ev Unit:=do
  let cs<-b5z N
  a0f (decide (cs.length=s)&&decide (0 < s)&&decide (t < N)&&decide (o+s<=ks.length))
  a2a N .dead
  if a0k cs then a9f t (setRow v q (a0o ks o cs)) else do
   b8y t q o s
   a9f t (setRow v q (a0o ks o cs))
theorem c3i {s t:Nat} {q:List Nat} {o:Nat} {cs ks:List AV}:((e74 N s t q o ((st.put N (.agg cs)).s t) ks).run (st.put N (.agg cs))).map (·.2)=c1n (st.put N .dead) N s cs (some (t,q,o,ks)):=by
 have hN:(st.put N (.agg cs)).s N= .agg cs:=by simp
 simp only [e74,b5z,Ev.run_bind,a38,hN,Option.bind,Ev.run_pure,a0d,c1n,gO]
 by_cases h3:cs.length=s/\0 < s/\t < N/\o+s<=ks.length
 ·obtain ⟨g1,g2,g3,g4⟩:=h3
  have htN:t≠N:=Nat.ne_of_lt g3
  simp only [g1,g2,g3,g4,decide_true,Bool.and_self,if_true,and_self,a5l,a94 (show nm (AV.agg cs)=false from rfl),iO,htN,if_false,St.put_s]
  generalize a0k cs=b
  cases b<;>rfl
 ·have:(decide (cs.length=s)&&decide (0 < s)&&decide (t < N)&&decide (o+s<=ks.length))=false:=by
   simp only [Bool.and_eq_false_iff,decide_eq_false_iff_not]
   simp only [not_and] at h3
   by_cases g1:cs.length=s
   ·by_cases g2:0 < s
    ·by_cases g3:t < N
     ·exact .inr (h3 g1 g2 g3)
     ·exact .inl (.inr g3)
    ·exact .inl (.inl (.inr g2))
   ·exact .inl (.inl (.inl g1))
  simp only [this,Bool.false_eq_true,if_false,h3]
  rfl
@[go_sem] theorem d2o {T:TypeId} {s:Nat} {x y:X}:evS G N none (.store T s x y) st=d7f N s x (giv st N y (rdv st y)):=by
 have e:a0w G N none (.store T s x y)=(a3b y N >>=fun _=>b8h x >>=fun p=>e74 N s p.1 p.2.1 p.2.2.1 p.2.2.2.1 p.2.2.2.2.2):=rfl
 simp only [evS,e,Ev.run_bind,a87,Option.bind,Ev.run]
 cases giv st N y (rdv st y) with
 | none=>rfl
 | some r=>
  obtain ⟨st1,cs⟩:=r
  simp only [Option.map,a5m,d7f,d0e]
  have hd:nm AV.dead=false:=rfl
  have ha:nm (AV.agg cs)=false:=rfl
  have hep:∀ t,(st1.put N (.agg cs)).ep t=(st1.put N .dead).ep t:=fun t=>by simp only [St.put_ep,hd,ha,Bool.false_eq_true,and_false,if_false]
  have hpt:∀ (z:AV) t q o e p,a5k (st1.put N z) x (.ref t q o e)=some p->p.1=t:=by
   intro z t q o e p hp
   simp only [a5k] at hp
   cases hr:eR (e==(st1.put N z).ep t) (a2u ((st1.put N z).s t) q) with
   | none=>rw [hr] at hp; cases hp
   | some ks=>
    rw [hr] at hp
    simp only [ptO,gO] at hp
    split at hp
    ·injection hp with hp; rw [<-hp]
    ·cases hp
  suffices hq:c1n (st1.put N .dead) N s cs (a5k (st1.put N (.agg cs)) x (rdv (st1.put N (.agg cs)) x))=c1n (st1.put N .dead) N s cs (a5k (st1.put N .dead) x (rdv (st1.put N .dead) x)) by
   rw [<-hq]
   cases a5k (st1.put N (.agg cs)) x (rdv (st1.put N (.agg cs)) x) with
   | none=>rfl
   | some p=>obtain ⟨t,q,o,ks⟩:=p; exact c3i
  have hrd:rdv (st1.put N (.agg cs)) x=rdv (st1.put N .dead) x\/(rdv (st1.put N (.agg cs)) x= .agg cs/\rdv (st1.put N .dead) x= .dead):=by
   cases x with
   | t t=>
    by_cases ht:t=N
    ·exact .inr (by simp [rdv,ht])
    ·exact .inl (by simp [rdv,ht])
   | _=>exact .inl rfl
  rcases hrd with h | ⟨h1,h2⟩
  ·rw [h]
   cases hv:rdv (st1.put N .dead) x with
   | ref t q o e=>
    by_cases ht:t < N
    ·have htN:t≠N:=Nat.ne_of_lt ht
     have:a5k (st1.put N (.agg cs)) x (.ref t q o e)=a5k (st1.put N .dead) x (.ref t q o e):=by
      simp only [a5k,hep,St.put_s,htN,if_false]
     rw [this]
    ·rw [c1o (fun p hp=>by rw [hpt _ _ _ _ _ _ hp]; exact ht),c1o (fun p hp=>by rw [hpt _ _ _ _ _ _ hp]; exact ht)]
   | _=>rfl
  ·rw [h1,h2]; rfl
def b9p (v:AV):Option Int:=match v with
 | .lit (.int _ n)=>some n
 | _=>none
@[go_sem] theorem d9t {k:IntKind} {n:Int}:b9p (.lit (.int k n))=some n:=(rfl)
theorem a89 (x:X):(b76 x).run st=(b9p (rdv st x)).map fun n=>(n,st):=by
 simp only [b76,Ev.run_bind,a4q,Option.bind]
 cases rdv st x<;>try rfl
 rename_i v; cases v<;>rfl
def iaB (st:St) (sz:Nat) (n:Int) (t:Nat) (q:List Nat) (lo m:Nat) (k:Option AV):Option AV:=match k with
 | some (.own sz' n0 _)=>gO (n < (m:Int)/\sz'=sz/\lo+m<=n0) (some (.ref t q ((lo+n.toNat)*sz) (st.ep t)))
 | _=>none
@[congr] theorem d3m {sz:Nat} {n:Int} {t:Nat} {q:List Nat} {lo m:Nat} {k k':Option AV} (h:k=k'):iaB st sz n t q lo m k=iaB st sz n t q lo m k':=by rw [h]
@[go_sem] theorem e5h {sz:Nat} {n:Int} {t:Nat} {q:List Nat} {lo m sz' n0:Nat} {ks:List AV}:iaB st sz n t q lo m (some (.own sz' n0 ks))=gO (n < (m:Int)/\sz'=sz/\lo+m<=n0) (some (.ref t q ((lo+n.toNat)*sz) (st.ep t))):=(rfl)
def iaV (st:St) (sz:Nat) (n:Int) (x:X) (v:AV):Option AV:=match v with
 | .sl m ks=>gO (n < (m:Int)/\n.toNat*sz < ks.length) (some (.ip ks (n.toNat*sz)))
 | .own sz' m ks=>match x with
  | .t t=>iaB st sz n t [] 0 m (some (.own sz' m ks))
  | _=>none
 | .bor t q lo m e=>iaB st sz n t q lo m (a1j st t q e)
 | _=>none
@[congr] theorem d3o {sz:Nat} {n:Int} {x:X} {v v':AV} (h:v=v'):iaV st sz n x v=iaV st sz n x v':=by rw [h]
@[go_sem] theorem f0r {sz:Nat} {n:Int} {x:X} {m:Nat} {ks:List AV}:iaV st sz n x (.sl m ks)=gO (n < (m:Int)/\n.toNat*sz < ks.length) (some (.ip ks (n.toNat*sz))):=(rfl)
@[go_sem] theorem e5j {sz:Nat} {n:Int} {t sz' m:Nat} {ks:List AV}:iaV st sz n (.t t) (.own sz' m ks)=iaB st sz n t [] 0 m (some (.own sz' m ks)):=(rfl)
@[go_sem] theorem e5i {sz:Nat} {n:Int} {x:X} {t:Nat} {q:List Nat} {lo m e:Nat}:iaV st sz n x (.bor t q lo m e)=iaB st sz n t q lo m (a1j st t q e):=(rfl)
def iaO (st:St) (sz:Nat) (x:X) (v:AV) (i:Option Int):Option AV:=match i with
 | some n=>gO (0<=n) (iaV st sz n x v)
 | none=>none
@[congr] theorem d3n {sz:Nat} {x:X} {v v':AV} {i i':Option Int} (h:i=i') (h2:v=v'):iaO st sz x v i=iaO st sz x v' i':=by rw [h,h2]
@[go_sem] theorem d9s {sz:Nat} {x:X} {v:AV} {n:Int}:iaO st sz x v (some n)=gO (0<=n) (iaV st sz n x v):=(rfl)
theorem a85 {x:X} {t:Nat} {q:List Nat} {lo n e:Nat} (h:rdv st x= .bor t q lo n e):(a5x x).run st=if e=st.ep t then some ((t,q,lo,n),st) else none:=by
 simp only [a5x,Ev.run_bind,a0n,h,Option.bind,a07]
 by_cases he:e=st.ep t
 ·simp only [he,beq_self_eq_true,a0f,if_true]; rfl
 ·have:(e==st.ep t)=false:=by simpa using he
  simp only [this,a0f,Bool.false_eq_true,if_false,he]; rfl
theorem a86 {t sz n:Nat} {ks:List AV} (h:st.s t= .own sz n ks):(a5x (.t t)).run st=some ((t,[],0,n),st):=by
 simp only [a5x,Ev.run_bind,a0n,rdv,h,Option.bind,a99,Ev.run]; rfl
theorem a95 {x:X} (h1:∀ t q lo n e,rdv st x≠ .bor t q lo n e) (h2:∀ sz n ks t,x= .t t->rdv st x≠ .own sz n ks):(a5x x).run st=none:=by
 simp only [a5x,Ev.run_bind,a0n,Option.bind]
 cases hv:rdv st x<;>try rfl
 ·cases x<;>try rfl
  exact (h2 _ _ _ _ rfl hv).elim
 ·exact (h1 _ _ _ _ _ hv).elim
def d2s (st:St) (d sz n:Nat) (x:X) (v:AV) (i:Option Int):Option St:=match i with
 | some j=>gO (0<=j/\j < (n:Int)) (b9o st d (j.toNat*sz) x v)
 | none=>none
@[congr] theorem c8f {sz n:Nat} {x:X} {v v':AV} {i i':Option Int} (h:i=i') (h2:v=v'):d2s st d sz n x v i=d2s st d sz n x v' i':=by rw [h,h2]
@[go_sem] theorem d2t {sz n:Nat} {x:X} {v:AV} {j:Int}:d2s st d sz n x v (some j)=gO (0<=j/\j < (n:Int)) (b9o st d (j.toNat*sz) x v):=(rfl)
@[go_sem] theorem c8a {T:TypeId} {sz n:Nat} {x i:X}:evS G N (some d) (.aaddrv T sz n x i) st=d2s st d sz n x (rdv st x) (b9p (rdv st i)):=by
 simp only [evS,a0w,Ev.run_bind,a89,Option.bind]
 cases b9p (rdv st i) with
 | none=>rfl
 | some j=>
  simp only [Option.map,Ev.run_bind,a0d,Option.bind,d2s,gO]
  by_cases h0:0<=j/\j < (n:Int)
  ·simp only [h0,decide_true,Bool.and_self,and_self,if_true,Ev.run_bind,a0n,Option.bind]
   cases hv:rdv st x<;>simp only [b9o,Ev.run_bind,a5m,Option.bind,hv,b89]<;>try rfl
   ·generalize a5k st x _=r; cases r<;>rfl
   ·generalize a5k st x _=r; cases r<;>rfl
  ·have:(decide (0<=j)&&decide (j < (n:Int)))=false:=by
    rw [Bool.eq_false_iff]; intro hh
    simp only [Bool.and_eq_true,decide_eq_true_eq] at hh
    exact h0 hh
   simp only [this,Bool.false_eq_true,if_false,if_neg h0]
@[go_sem] theorem d2i {T:TypeId} {sz:Nat} {x i:X}:evS G N (some d) (.iaddr T sz x i) st=b0k st d (iaO st sz x (rdv st x) (b9p (rdv st i))):=by
 simp only [evS,a0w,Ev.run_bind,a89,Option.bind]
 cases b9p (rdv st i) with
 | none=>rfl
 | some n=>
  simp only [Option.map,Ev.run_bind,a0d,Option.bind,iaO,gO]
  by_cases h0:0<=n
  ·simp only [h0,decide_true,if_true,Ev.run_bind,a0n,Option.bind]
   cases hv:rdv st x with
   | sl m ks=>
    simp only [iaV,gO,Ev.run_bind,a0d,Option.bind]
    by_cases h1:n < (m:Int)
    ·by_cases h2:n.toNat*sz < ks.length
     ·simp only [h1,h2,decide_true,Bool.and_self,and_self,if_true]; rfl
     ·simp only [h2,decide_false,Bool.and_false,and_false,Bool.false_eq_true,if_false]; rfl
    ·simp only [h1,decide_false,Bool.false_and,false_and,Bool.false_eq_true,if_false]; rfl
   | bor t q lo m e=>
    simp only [Ev.run_bind,a85 hv,Option.bind,iaV]
    by_cases he:e=st.ep t
    ·simp only [he,if_true,Ev.run_bind,a0d,Option.bind,a07,a1j]
     by_cases h1:n < (m:Int)
     ·simp only [h1,decide_true,if_true,Ev.run_bind,a07,Option.bind,a0q]
      cases a0c (st.s t) q with
      | none=>rfl
      | some k=>
       cases k<;>try rfl
       rename_i sz' n0 ks
       simp only [Option.map,iaB,gO,Ev.run_bind,a0d,Option.bind,h1,true_and]
       by_cases h2:sz'=sz
       ·by_cases h3:lo+m<=n0
        ·simp only [h2,h3,beq_self_eq_true,decide_true,Bool.and_self,if_true,and_self]; rfl
        ·simp only [h3,decide_false,Bool.and_false,and_false,Bool.false_eq_true,if_false]; rfl
       ·have:(sz'==sz)=false:=by simpa using h2
        simp only [this,h2,Bool.false_and,false_and,Bool.false_eq_true,if_false]; rfl
     ·simp only [h1,decide_false,Bool.false_eq_true,if_false]
      cases a0c (st.s t) q with
      | none=>rfl
      | some k=>cases k<;>try rfl
                simp only [iaB,gO,h1,false_and,if_false]; rfl
    ·simp only [he,if_false,a1j]; rfl
   | own sz' m ks=>
    cases x with
    | t t=>
     simp only [rdv] at hv
     simp only [Ev.run_bind,a86 hv,Option.bind,iaV,iaB,gO,a0d]
     by_cases h1:n < (m:Int)
     ·simp only [h1,decide_true,if_true,Ev.run_bind,a07,Option.bind,a0q,hv,a0c,Option.map,a0d,true_and]
      by_cases h2:sz'=sz
      ·simp only [h2,beq_self_eq_true,Nat.zero_add,Nat.le_refl,decide_true,Bool.and_self,if_true,and_self]; rfl
      ·have:(sz'==sz)=false:=by simpa using h2
       simp only [this,h2,Bool.false_and,false_and,Bool.false_eq_true,if_false]; rfl
     ·simp only [h1,decide_false,Bool.false_eq_true,if_false,false_and]; rfl
    | _=>rfl
   | _=>simp only [Ev.run_bind,a95 (st:=st) (x:=x) (by simp [hv]) (by simp [hv]),Option.bind]; rfl
  ·simp only [h0,decide_false,Bool.false_eq_true,if_false]; rfl
def oiK (st:St) (x:Option X) (dflt:Int):Option Int:=match x with
 | some x=>b9p (rdv st x)
 | none=>some dflt
@[go_sem] theorem e01 {z:Int}:oiK st none z=some z:=(rfl)
@[go_sem] theorem e02 {x:X} {z:Int}:oiK st (some x) z=b9p (rdv st x):=(rfl)
theorem a3v {x:Option X} {z:Int}:(a2i x z).run st=(oiK st x z).map fun n=>(n,st):=by
 cases x with
 | none=>rfl
 | some x=>exact a89 x
def slA (sz n:Nat) (ks:List AV) (lo hi:Option Int):Option AV:=match lo,hi with
 | some l,some h=>gO (0<=l/\l<=h/\h<=(n:Int)/\ks.length=n*sz) (some (.sl (h - l).toNat ((ks.drop (l.toNat*sz)).take ((h - l).toNat*sz))))
 | _,_=>none
@[congr] theorem d62 {sz n:Nat} {ks:List AV} {lo hi lo' hi':Option Int} (h:lo=lo') (h2:hi=hi'):slA sz n ks lo hi=slA sz n ks lo' hi':=by rw [h,h2]
@[go_sem] theorem e14 {sz n:Nat} {ks:List AV} {l h:Int}:slA sz n ks (some l) (some h)=gO (0<=l/\l<=h/\h<=(n:Int)/\ks.length=n*sz) (some (.sl (h - l).toNat ((ks.drop (l.toNat*sz)).take ((h - l).toNat*sz)))):=(rfl)
def slC (st:St) (sz t:Nat) (q:List Nat) (lo0 n sz' n0:Nat) (lo hi:Option Int):Option AV:=match lo,hi with
 | some l,some h=>gO (0<=l/\l<=h/\h<=(n:Int)/\lo0+n<=n0/\sz'=sz/\(lo0=0\/l=0\/l < h)) (some (.bor t q (lo0+l.toNat) (h - l).toNat (st.ep t)))
 | _,_=>none
@[congr] theorem d64 {sz t:Nat} {q:List Nat} {lo0 n sz' n0:Nat} {lo hi lo' hi':Option Int} (h:lo=lo') (h2:hi=hi'):slC st sz t q lo0 n sz' n0 lo hi=slC st sz t q lo0 n sz' n0 lo' hi':=by rw [h,h2]
@[go_sem] theorem e15 {sz t:Nat} {q:List Nat} {lo0 n sz' n0:Nat} {l h:Int}:slC st sz t q lo0 n sz' n0 (some l) (some h)=gO (0<=l/\l<=h/\h<=(n:Int)/\lo0+n<=n0/\sz'=sz/\(lo0=0\/l=0\/l < h)) (some (.bor t q (lo0+l.toNat) (h - l).toNat (st.ep t))):=(rfl)
def slB (st:St) (sz t:Nat) (q:List Nat) (lo0 n:Nat) (lo hi:Option X) (k:Option AV):Option AV:=match k with
 | some (.own sz' n0 _)=>slC st sz t q lo0 n sz' n0 (oiK st lo 0) (oiK st hi n)
 | _=>none
@[congr] theorem d63 {sz t:Nat} {q:List Nat} {lo0 n:Nat} {lo hi:Option X} {k k':Option AV} (h:k=k'):slB st sz t q lo0 n lo hi k=slB st sz t q lo0 n lo hi k':=by rw [h]
@[go_sem] theorem e7u {sz t:Nat} {q:List Nat} {lo0 n:Nat} {lo hi:Option X} {sz' n0:Nat} {ks:List AV}:slB st sz t q lo0 n lo hi (some (.own sz' n0 ks))=slC st sz t q lo0 n sz' n0 (oiK st lo 0) (oiK st hi n):=(rfl)
def slS (s:ByteArray) (lo hi:Option Int):Option AV:=match lo,hi with
 | some l,some h=>gO (0<=l/\l<=h/\h<=(s.size:Int)) (some (.lit (.string (s.extract l.toNat h.toNat))))
 | _,_=>none
@[go_sem] theorem e16 {s:ByteArray} {l h:Int}:slS s (some l) (some h)=gO (0<=l/\l<=h/\h<=(s.size:Int)) (some (.lit (.string (s.extract l.toNat h.toNat)))):=(rfl)
def slV (st:St) (sz:Nat) (x:X) (lo hi:Option X) (v:AV):Option AV:=match v with
 | .lit (.string s)=>gO (sz=0) (slS s (oiK st lo 0) (oiK st hi s.size))
 | .sl n ks=>gO (0 < sz) (slA sz n ks (oiK st lo 0) (oiK st hi n))
 | .own sz' n ks=>match x with
  | .t t=>gO (0 < sz) (slB st sz t [] 0 n lo hi (some (.own sz' n ks)))
  | _=>none
 | .bor t q lo0 n e=>gO (0 < sz) (slB st sz t q lo0 n lo hi (a1j st t q e))
 | _=>none
@[congr] theorem d66 {sz:Nat} {x:X} {lo hi:Option X} {v v':AV} (h:v=v'):slV st sz x lo hi v=slV st sz x lo hi v':=by rw [h]
section
variable {sz:Nat} {x:X} {lo hi:Option X}
@[go_sem] theorem e7x {s:ByteArray}:slV st sz x lo hi (.lit (.string s))=gO (sz=0) (slS s (oiK st lo 0) (oiK st hi s.size)):=(rfl)
@[go_sem] theorem f1z {n:Nat} {ks:List AV}:slV st sz x lo hi (.sl n ks)=gO (0 < sz) (slA sz n ks (oiK st lo 0) (oiK st hi n)):=(rfl)
@[go_sem] theorem e7w {t sz' n:Nat} {ks:List AV}:slV st sz (.t t) lo hi (.own sz' n ks)=gO (0 < sz) (slB st sz t [] 0 n lo hi (some (.own sz' n ks))):=(rfl)
@[go_sem] theorem e7v {t:Nat} {q:List Nat} {lo0 n e:Nat}:slV st sz x lo hi (.bor t q lo0 n e)=gO (0 < sz) (slB st sz t q lo0 n lo hi (a1j st t q e)):=(rfl)
end
theorem d65 {sz t:Nat} {q:List Nat} {lo0 n sz' n0 e:Nat} {lo hi:Option X} (he:e=st.ep t) :
  ((do
    let l<-a2i lo 0
    let h<-a2i hi n
    a0f (decide (0<=l)&&decide (l<=h)&&decide (h<=(n:Int))&&decide (lo0+n<=n0)&&sz'==sz&&(lo0==0||l==0||decide (l < h)))
    setD (some d) (.bor t q (lo0+l.toNat) (h - l).toNat e):Ev Unit).run st).map (·.2)=b0k st d (slC st sz t q lo0 n sz' n0 (oiK st lo 0) (oiK st hi n)):=by
 subst he
 simp only [Ev.run_bind,a3v,Option.bind,slC]
 cases oiK st lo 0 with
 | none=>rfl
 | some l=>
  simp only [Option.map,a3v]
  cases oiK st hi n with
  | none=>rfl
  | some h=>
   simp only [Option.map,Ev.run_bind,a0d,Option.bind,gO]
   by_cases hc:0<=l/\l<=h/\h<=(n:Int)/\lo0+n<=n0/\sz'=sz/\(lo0=0\/l=0\/l < h)
   ·have:(decide (0<=l)&&decide (l<=h)&&decide (h<=(n:Int))&&decide (lo0+n<=n0)&&sz'==sz&&(lo0==0||l==0||decide (l < h)))=true:=by
     simp only [Bool.and_eq_true,Bool.or_eq_true,decide_eq_true_eq,beq_iff_eq]
     omega
    rw [if_pos hc]
    simp only [this,if_true]; rfl
   ·have:(decide (0<=l)&&decide (l<=h)&&decide (h<=(n:Int))&&decide (lo0+n<=n0)&&sz'==sz&&(lo0==0||l==0||decide (l < h)))=false:=by
     rw [Bool.eq_false_iff]
     intro hh
     simp only [Bool.and_eq_true,Bool.or_eq_true,decide_eq_true_eq,beq_iff_eq] at hh
     exact hc (by omega)
    rw [if_neg hc]
    simp only [this,Bool.false_eq_true,if_false]; rfl
@[go_sem] theorem d2n {T:TypeId} {sz:Nat} {x:X} {lo hi:Option X}:evS G N (some d) (.slice T sz x lo hi none) st=b0k st d (slV st sz x lo hi (rdv st x)):=by
 simp only [evS,a0w,Ev.run_bind,a0n,Option.bind]
 have hno:∀ v:AV,rdv st x=v->(∀ t q lo n e,v≠ .bor t q lo n e)->(∀ sz n ks t,x= .t t->v≠ .own sz n ks)->((a0f (decide (0 < sz)) >>=fun _=>(a5x x >>=fun r=>(do
   let v<-a9g r.1
   let k<-a2r (a0c v.1 r.2.1)
   match k with
   | .own sz' n0 _=>do
    let l<-a2i lo 0
    let h<-a2i hi r.2.2.2
    a0f (decide (0<=l)&&decide (l<=h)&&decide (h<=(r.2.2.2:Int))&&decide (r.2.2.1+r.2.2.2<=n0)&&sz'==sz&&(r.2.2.1==0||l==0||decide (l < h)))
    match (none:Option X) with
    | none=>setD (some d) (.bor r.1 r.2.1 (r.2.2.1+l.toNat) (h - l).toNat v.2)
    | some m=>do
     let m<-b76 m
     a0f (l==0&&h==0&&m==0&&hi.isSome)
     a26 N (some d) (.own sz 0 [])
   | _=> .fail:Ev Unit)):Ev Unit).run st).map (·.2)=none:=by
  intro v hv h1 h2
  have hb:=a95 (st:=st) (x:=x) (by rw [hv]; exact h1) (by rw [hv]; exact h2)
  by_cases h0:0 < sz
  ·simp only [Ev.run_bind,a0d,Option.bind,h0,decide_true,if_true,hb]; rfl
  ·simp only [Ev.run_bind,a0d,Option.bind,h0,decide_false,Bool.false_eq_true,if_false]; rfl
 cases hv:rdv st x with
 | lit v=>
  cases v<;>try exact hno _ hv (by simp) (by simp)
  rename_i s
  simp only [slV,Ev.run_bind,a3v,Option.bind,slS,gO]
  cases oiK st lo 0 with
  | none=>simp only [Option.map,ite_self]; rfl
  | some l=>
   simp only [Option.map,a3v]
   cases oiK st hi s.size with
   | none=>simp only [Option.map,ite_self]; rfl
   | some h=>
    simp only [Option.map,Ev.run_bind,a0d,Option.bind,Option.isNone,Bool.and_true]
    by_cases hz:sz=0
    ·by_cases hc:0<=l/\l<=h/\h<=(s.size:Int)
     ·obtain ⟨h1,h2,h3⟩:=hc
      simp only [h1,h2,h3,hz,decide_true,Bool.and_self,beq_self_eq_true,if_true,and_self]; rfl
     ·have:(decide (0<=l)&&decide (l<=h)&&decide (h<=(s.size:Int)))=false:=by
       rw [Bool.eq_false_iff]; intro hh
       simp only [Bool.and_eq_true,decide_eq_true_eq] at hh
       exact hc (by omega)
      simp only [this,hz,Bool.false_and,Bool.false_eq_true,if_false,hc,if_true]; rfl
    ·have:(sz==0)=false:=by simpa using hz
     simp only [this,hz,Bool.and_false,Bool.false_eq_true,if_false]; rfl
 | sl n ks=>
  simp only [slV,gO,Ev.run_bind,a0d,Option.bind,slA]
  by_cases h0:0 < sz
  ·simp only [h0,decide_true,if_true,Ev.run_bind,a3v,Option.bind]
   cases oiK st lo 0 with
   | none=>rfl
   | some l=>
    simp only [Option.map,a3v]
    cases oiK st hi n with
    | none=>rfl
    | some h=>
     simp only [Option.map,Ev.run_bind,a0d,Option.bind,gO]
     by_cases hc:0<=l/\l<=h/\h<=(n:Int)/\ks.length=n*sz
     ·obtain ⟨h1,h2,h3,h4⟩:=hc
      simp only [h1,h2,h3,h4,decide_true,Bool.and_self,if_true,and_self]; rfl
     ·have:(decide (0<=l)&&decide (l<=h)&&decide (h<=(n:Int))&&decide (ks.length=n*sz))=false:=by
       rw [Bool.eq_false_iff]; intro hh
       simp only [Bool.and_eq_true,decide_eq_true_eq] at hh
       exact hc ⟨hh.1.1.1,hh.1.1.2,hh.1.2,hh.2⟩
      simp only [this,Bool.false_eq_true,if_false,hc]; rfl
  ·simp only [h0,decide_false,Bool.false_eq_true,if_false]; rfl
 | bor t q lo0 n e=>
  simp only [slV,gO,Ev.run_bind,a0d,Option.bind]
  by_cases h0:0 < sz
  ·simp only [h0,decide_true,if_true,Ev.run_bind,a85 hv,Option.bind]
   by_cases he:e=st.ep t
   ·simp only [he,if_true,a1j]
    simp only [a07,a0q]
    cases a0c (st.s t) q with
    | none=>rfl
    | some k=>cases k<;>first | rfl | exact d65 rfl
   ·simp only [he,if_false,a1j]; rfl
  ·simp only [h0,decide_false,Bool.false_eq_true,if_false]; rfl
 | own sz' m ks=>
  cases x with
  | t t=>
   simp only [rdv] at hv
   simp only [slV,gO,Ev.run_bind,a0d,Option.bind]
   by_cases h0:0 < sz
   ·simp only [h0,decide_true,if_true,Ev.run_bind,a86 hv,Option.bind]
    simp only [a07,a0q,hv,a0c,Option.map]
    exact d65 rfl
   ·simp only [h0,decide_false,Bool.false_eq_true,if_false]; rfl
  | _=>exact hno _ hv (by simp) (by simp)
 | _=>exact hno _ hv (by simp) (by simp)
end
end Go.Ideal
end
