/- Part Qae of the proof: walks on a machine that is proved sound. -/
import Derived.Test.YtploijbaclgehaaDoorQad
import Derived.Scope
set_option linter.unusedVariables false
set_option linter.unusedSimpArgs false
section
namespace Go.Ideal
open Classical
def rvT:ResultVar->Nat
 | .tmp t=>t
 | .cell t _=>t
def b0w (P:Program) (N:Nat) (st:St):ResultVar->Option AV
 | .tmp t=>if decide (t < N)&&noRef (st.s t) then some (st.s t) else none
 | .cell t T=>if t < N then (match st.s t with
  | .var ks=>(match b3e P T,ks with
   | some false,[k]=>some k
   | some true,ks=>if a74 P T ks.length then some (.agg ks) else none
   | _,_=>none)
  | _=>none) else none
def c77 (P:Program) (N:Nat) (st:St):List ResultVar->Option (List AV)
 | []=>some []
 | r::rs=>match b0w P N st r,c77 P N st rs with
  | some k,some ks=>some (k::ks)
  | _,_=>none
def b2i (P:Program) (N:Nat) (st:St) (rs:List ResultVar):Option AV:=match c77 P N st rs with
 | some [k]=>some k
 | some ks=>some (.tup ks)
 | none=>none
def b3y (tmps:Array Value):ResultVar->Sem Value
 | .tmp t=>pure (tmps.getD t undef)
 | .cell a t=>do loadVar t (<-asAddr (tmps.getD a undef))
section
variable {E:Env} {N:Nat} {st:St} {a:Act} {w:World} {val:Nat->Value} {ow:Nat->Option Nat} {P:Program} {G:GG}
theorem b68 (h:Sim E N st a w val ow) {r:ResultVar} {k:AV} (hr:b0w P N st r=some k):∃ v,(b3y a.tmps r).run P w= .ok v w/\R w (Mo E w ow) k noQ (fun b=>ow b=some (rvT r)) v:=by
 cases r with
 | tmp t=>
  simp only [b0w,Bool.and_eq_true,decide_eq_true_eq] at hr
  split at hr
  ·rename_i hc
   simp only [Option.some.injEq] at hr
   subst hr
   exact ⟨_,rfl,by rw [h.agree t hc.1]; exact a5t hc.2 (h.slots t)⟩
  ·cases hr
 | cell t T=>
  simp only [b0w] at hr
  split at hr
  ·rename_i ht
   split at hr
   ·rename_i ks hks
    have hsl:=h.slots t
    rw [hks] at hsl
    have hsl0:=hsl
    simp only [R] at hsl
    obtain ⟨b,cur,T',fz,hv,hb,hh,hz,h1,hrl⟩:=hsl
    have ha:(b3y a.tmps (.cell t T)).run P w=(loadVar T ⟨b,0,none⟩).run P w:=by
     simp only [b3y,h.agree t ht,hv,asAddr,Sem.run_bind,Sem.run_pure,Result.andThen_ok]
    have hlen:=a0r hrl
    split at hr
    ·rename_i k' hag
     simp only [Option.some.injEq] at hr
     subst hr
     obtain ⟨v,hvs,hrk⟩:=b9w hrl
     refine ⟨v,?_,a10 (fun b hb=>hb.1) hrk⟩
     rw [ha]
     have hcell:w.cell? ⟨b,0,none⟩=some v:=by
      rw [a07 hh]
      have:cur.toList[0]? =some v:=by rw [hvs]; rfl
      simpa using this
     have hagg:(isAgg T).run P w= .ok false w:=by
      unfold b3e at hag
      split at hag<;>simp only [Option.some.injEq,reduceCtorEq] at hag
      rename_i td hn1 hn2 hu
      unfold isAgg
      rw [Sem.run_bind,run_underlying hu]
      cases td<;>first
       | rfl
       | exact (hn1 _ rfl).elim
       | exact (hn2 _ _ rfl).elim
       | exact (hn1 _ _ rfl).elim
       | exact (hn2 _ rfl).elim
     simp only [loadVar,Sem.run_bind,hagg,Result.andThen_ok]
     simp [load,Sem.run,hcell]
    ·rename_i ks' hag
     split at hr
     ·rename_i hsz
      simp only [Option.some.injEq] at hr
      subst hr
      obtain ⟨i,hi,hszi⟩:=a20 hsz
      refine ⟨.agg cur,?_,?_⟩
      ·rw [ha]
       have hagg:(isAgg T).run P w= .ok true w:=by
        unfold b3e at hag
        unfold isAgg
        split at hag
        ·rename_i fs hu; rw [Sem.run_bind,run_underlying hu]; rfl
        ·rename_i n e hu; rw [Sem.run_bind,run_underlying hu]; rfl
        ·simp at hag
        ·cases hag
       have hsize:(sizeOf T).run P w= .ok cur.toList.length w:=by simp [sizeOf,typeInfo,hi,hszi]; simpa using hlen.symm
       have hlc:=a9q P b 0 cur.toList (w:=w) (fun i v hv=>by rw [Nat.zero_add,a07 hh]; simpa using hv)
       simp only [loadVar,Sem.run_bind,hagg,Result.andThen_ok,hsize,hlc,if_true,Sem.run_pure]
      ·simp only [R]
       exact ⟨cur,rfl,h1,a17 (fun b hb=>hb.1) hrl⟩
     ·cases hr
    ·cases hr
   ·cases hr
  ·cases hr
theorem b3v (h:Sim E N st a w val ow):∀ (rs:List ResultVar) {ks:List AV},(rs.map rvT).Nodup->c77 P N st rs=some ks->∃ vs,(rs.mapM (b3y a.tmps)).run P w= .ok vs w/\RL w (Mo E w ow) ks noQ (fun b=>∃ t,t∈rs.map rvT/\ow b=some t) vs
 | [],ks,_,hr=>by
  simp only [c77,Option.some.injEq] at hr
  subst hr
  exact ⟨[],by simp,by simp [RL]⟩
 | r::rs,ks,hn,hr=>by
  simp only [c77] at hr
  split at hr
  ·rename_i k ks' h1 h2
   simp only [Option.some.injEq] at hr
   subst hr
   simp only [List.map_cons,List.nodup_cons] at hn
   obtain ⟨v,g1,g2⟩:=b68 h h1
   obtain ⟨vs,g3,g4⟩:=b3v h rs hn.2 h2
   refine ⟨v::vs,by simp [List.mapM_cons,g1,g3],?_⟩
   simp only [RL]
   refine ⟨v,vs,rfl,_,_,fun b hb=>⟨rvT r,by simp,hb⟩,fun b ⟨t,ht,hb⟩=>⟨t,by simp at ht ⊢; exact .inr ht,hb⟩,fun b hb ⟨t,ht,hb2⟩=> ?_,g2,g4⟩
   rw [hb] at hb2
   injection hb2 with hb2
   exact hn.1 (by rw [hb2]; exact ht)
  ·cases hr
theorem b9f (h:Sim E N st a w val ow) {fn:Func} {rs:List ResultVar} (hfn:fn.results.toList=rs) (hn:(rs.map rvT).Nodup) {res:AV} (hr:b2i P N st rs=some res) :
  ∃ v,(results fn a.tmps).run P w= .ok v w/\R w (Mo E w ow) res noQ (fun b=>∃ t,t∈rs.map rvT/\ow b=some t) v:=by
 unfold b2i at hr
 have key:∀ ks,c77 P N st rs=some ks->∃ vs:List Value,(results fn a.tmps).run P w= .ok (if h:vs.toArray.size=1 then vs.toArray[0] else .tuple vs.toArray) w/\RL w (Mo E w ow) ks noQ (fun b=>∃ t,t∈rs.map rvT/\ow b=some t) vs:=by
  intro ks hks
  obtain ⟨vs,g1,g2⟩:=b3v h rs hn hks
  refine ⟨vs,?_,g2⟩
  unfold results
  have hm:(fn.results.mapM (b3y a.tmps)).run P w= .ok vs.toArray w:=by
   rw [Array.mapM_eq_mapM_toList,hfn]
   simp [g1]
  have hgen:∀ g:ResultVar->Sem Value,g=b3y a.tmps->(fn.results.mapM g).run P w= .ok vs.toArray w:=fun g hg=>by rw [hg]; exact hm
  rw [Sem.run_bind,hgen _ (by funext x; cases x<;>rfl)]
  rfl
 split at hr
 ·rename_i k hk
  simp only [Option.some.injEq] at hr
  subst hr
  obtain ⟨vs,g1,g2⟩:=key _ hk
  obtain ⟨v,rfl,hrk⟩:=b9w g2
  exact ⟨v,by simpa using g1,hrk⟩
 ·rename_i ks hne hk
  simp only [Option.some.injEq] at hr
  subst hr
  obtain ⟨vs,g1,g2⟩:=key _ hk
  have hl:vs.length≠1:=by
   rw [a0r g2]
   intro h1
   obtain ⟨k,rfl⟩:=List.length_eq_one_iff.1 h1
   exact hne k rfl
  refine ⟨.tuple vs.toArray,by simpa [hl] using g1,?_⟩
  simp only [R]
  exact ⟨_,rfl,g2⟩
 ·cases hr
end
def d2d (P:Program) (N:Nat) (rs:List ResultVar) (res:AV):Exit->St->Prop
 | .normal,st | .ret,st=>b2i P N st rs=some res
 | _,_=>False
def f3x (P:Program) (N:Nat) (rs:List ResultVar) (res:AV) (posts:List (Nat×AV)):Exit->St->Prop
 | .normal,st | .ret,st=>b2i P N st rs=some res/\∀ p∈posts,st.s p.1=p.2
 | _,_=>False
theorem a65 {P:Program} {G:GG} {f:FuncId} {fn:Func} {c:Code} {N:Nat} {rs:List ResultVar} {pre:List AV} {res:AV} {posts:List (Nat×AV)} (hf:P.funcs[f]? =some fn) (hb:fn.body=some c) (hN:fn.ntmps=N) (hrs:fn.results.toList=rs) (hnd:(rs.map rvT).Nodup)
  (hsz:pre.length<=N) (hpost:∀ p∈posts,p.1 ∉ rs.map rvT/\p.1 < pre.length/\noRef p.2=true) (h:AWp P G N (posts.map (·.1)) c (f3x P N rs res posts) (St.init pre)):ACallsX P G f pre res posts:=by
 intro w args A ow hargs hA how hG hpre
 refine calls_of_wp hf hb ?_
 let E:Env:=⟨w,A,fun b=>ow b≠none,G⟩
 let a:Act:={ tmps:=args++Array.replicate (fn.ntmps - args.size) undef,defers:=[] }
 have hasz:a.tmps.size=N:=by
  simp only [a,Array.size_append,Array.size_replicate]; omega
 have hrest:∀ t,pre.length<=t->a.tmps.getD t undef=undef:=fun t ht=>by
  simp only [a,Array.getD_eq_getD_getElem?]
  rw [Array.getElem?_append_right (by omega)]
  by_cases h2:t - args.size < fn.ntmps - args.size
  ·simp [h2]
  ·simp [h2]
 have hfst:∀ t,t < pre.length->a.tmps.getD t undef=args.getD t undef:=fun t ht=>by
  simp only [a,Array.getD_eq_getD_getElem?]
  rw [Array.getElem?_append_left (by omega)]
 have hall:(fun t=>args.getD t undef)=fun t=>a.tmps.getD t undef:=by
  funext t
  by_cases ht:t < pre.length
  ·exact (hfst t ht).symm
  ·rw [hrest t (by omega),Array.getD_eq_getD_getElem?,Array.getElem?_eq_none (by omega)]
   rfl
 rw [hall] at hpre
 have hs:Sim E N (St.init pre) a w (fun t=>a.tmps.getD t undef) ow:={
  size:=hasz,defers:=rfl,agree:=fun _ _=>rfl,lt:=fun b t hb=>(how b t hb).2
  old:=fun b _ hF=>⟨by simpa [E] using hF,rfl⟩
  le:=Nat.le_refl _,os:=rfl,tape:=rfl,output:=rfl
  glob:=fun g v hg=>(hG g v hg).1,globA:=fun g v hg=>⟨(hG g v hg).2.1,by simp [E,(hG g v hg).2.2]⟩
  slots:=fun t=>by
   have hst:∀ av,pre[t]? =some av->(St.init pre).s t=av:=fun av h=>by simp only [St.init,h]
   cases ht:pre[t]? with
   | none=>
    have:pre.length<=t:=by simpa using ht
    have e:(St.init pre).s t= .lit undef:=by simp only [St.init,ht]
    rw [e]
    simp only [R]
    exact hrest t this
   | some av=>
    have hlt:t < pre.length:=(List.getElem?_eq_some_iff.1 ht).1
    rw [hst av ht]
    simp only [hfst t hlt]
    exact a00 (fun b hb=>⟨(hA b hb).2,(hA b hb).1,.inl hb⟩) (fun _ _=>rfl) av (fun _ _ h=>h) (fun _ h=>h) (fun _ _=>rfl) (hpre t av ht) }
 refine wp_mono (h E a w _ ow rfl hs) fun e a' w' ⟨hp,st',val',ow',hq,hs'⟩=> ?_
 have fin:(b2i P N st' rs=some res/\∀ p∈posts,st'.s p.1=p.2)->bodyPost P fn (fun e w'=>∃ v,e= .returned v/\RetX w A (fun b=>ow b≠none) w' res v posts args) .ret a' w':=fun ⟨ho,hps⟩=>by
  obtain ⟨v,hr,hR⟩:=b9f hs' hrs hnd ho
  refine ⟨hs'.defers,v,hr,v,rfl,?_⟩
  let own:Nat->Option Nat:=fun b=>match ow' b with
   | some t=>if t∈posts.map (·.1) then some (t+1) else some 0
   | none=>none
  have hMo:∀ b,Mo E w' ow' b->b < w'.heap.size/\own b=none/\(A b\/ow b≠none\/w.heap.size<=b):=fun b hb=>⟨hb.2.1,by simp only [own,hb.1],hb.2.2⟩
  exact {
   le:=hs'.le,os:=hs'.os,tape:=hs'.tape,output:=hs'.output
   frame:=fun b hb hF=>(hs'.old b hb hF).2
   own:=⟨own,fun b j hb=>by
     cases ho:ow' b with
     | none=>simp only [own,ho] at hb; cases hb
     | some t=>exact ⟨(hs'.owned ho).2,(hs'.owned ho).1⟩,
    a00 hMo (fun _ _=>rfl) res (fun _ _ h=>h) (fun b ⟨t,ht,hb⟩=>by
     have:t ∉ posts.map (·.1):=fun hm=>by
      obtain ⟨p,hp1,hp2⟩:=List.mem_map.1 hm
      exact (hpost p hp1).1 (by rw [hp2]; exact ht)
     simp only [own,hb,this,if_false]) (fun _ _=>rfl) hR,
    fun i av hm=>by
     obtain ⟨_,hil,hnr⟩:=hpost _ hm
     have hsl:=hs'.slots i
     rw [hps _ hm] at hsl
     have hv:val' i=args.getD i undef:=by
      rw [<-hs'.agree i (by omega),hp i (List.mem_map.2 ⟨_,hm,rfl⟩)]
      exact hfst i hil
     rw [hv] at hsl
     exact a00 hMo (fun _ _=>rfl) av (fun _ _ h=>h) (fun b hb=>by
      have:i∈posts.map (·.1):=List.mem_map.2 ⟨_,hm,rfl⟩
      simp only [own,hb,this,if_true]) (fun _ _=>rfl) (a5t hnr hsl)⟩ }
 cases e with
 | normal=>exact fin hq
 | ret=>exact fin hq
 | exit id=>exact hq.elim
 | goto l=>exact hq.elim
 | panic ch=>exact hq.elim
 | outgrown=>exact hq.elim
theorem ACallsX.plain {P:Program} {G:GG} {f:FuncId} {pre:List AV} {res:AV} (h:ACallsX P G f pre res []):ACalls P G f pre res:=fun w args A ow h1 h2 h3 h4 h5=>by
 refine (h w args A ow h1 h2 h3 h4 fun i av hi=>a00 (fun _ h=>h) (fun _ _=>rfl) av (fun _ _ h=>h.elim) (fun _ h=>h) (fun _ _=>rfl) (h5 i av hi)).mono ?_
 rintro e w' ⟨v,rfl,hr⟩
 obtain ⟨own,hown,hR,_⟩:=hr.own
 refine ⟨v,rfl,hr.le,hr.os,hr.tape,hr.output,hr.frame,fun b=>∃ j,own b=some j,fun b ⟨j,hb⟩=>hown b j hb,?_⟩
 exact a00 (fun b hb=>⟨hb.1,fun ⟨j,hj⟩=>(by rw [hb.2.1] at hj; cases hj),hb.2.2⟩) (fun _ _=>rfl) res (fun _ _ h=>h) (fun b hb=>⟨0,hb⟩) (fun _ _=>rfl) hR
theorem b24 {P:Program} {G:GG} {f:FuncId} {fn:Func} {c:Code} {N:Nat} {rs:List ResultVar} {pre:List AV} {res:AV} (hf:P.funcs[f]? =some fn) (hb:fn.body=some c) (hN:fn.ntmps=N) (hrs:fn.results.toList=rs) (hnd:(rs.map rvT).Nodup)
  (hsz:pre.length<=N) (h:AWp P G N [] c (d2d P N rs res) (St.init pre)):ACalls P G f pre res:=
 ACallsX.plain (a65 hf hb hN hrs hnd hsz (fun p hp=>by cases hp) (h.mono fun e st hq=>by
  cases e<;>first | exact ⟨hq,fun p hp=>by cases hp⟩ | exact hq.elim))
open Classical
def agr (st st2:St) (t:Nat):Prop:=st2.s t=st.s t/\st2.ep t=st.ep t
theorem agr.refl (st:St) (t:Nat):agr st st t:=⟨rfl,rfl⟩
theorem agr.trans {a b c:St} {t:Nat} (h:agr a b t) (h2:agr b c t):agr a c t:=⟨h2.1.trans h.1,h2.2.trans h.2⟩
theorem agr.symm {a b:St} {t:Nat} (h:agr a b t):agr b a t:=⟨h.1.symm,h.2.symm⟩
theorem agr.put {a b:St} {t u:Nat} (v:AV) (h:agr a b t):agr (a.put u v) (b.put u v) t:=by
 unfold agr at *
 by_cases ht:t=u
 ·subst ht; simp [St.put_ep,h.2]
 ·simp [St.put_ep,ht,h.1,h.2]
theorem agr.set {a b:St} {t u:Nat} (v:AV) (h:agr a b t):agr (a.set u v) (b.set u v) t:=by
 unfold agr at *
 by_cases ht:t=u
 ·subst ht; simp [h.2]
 ·simp [ht,h.1,h.2]
theorem agr.putn {a:St} {t u:Nat} (v:AV) (h:t≠u):agr a (a.put u v) t:=by simp [agr,St.put_ep,h]
theorem agr.setn {a:St} {t u:Nat} (v:AV) (h:t≠u):agr a (a.set u v) t:=by simp [agr,h]
structure FR (α:Type) where
 a:α
 st:St
 rd:List Nat
 wr:List Nat
 sw:List Nat
def Ev.runF (N:Nat) {α:Type}:Ev α->St->List Nat->Option (FR α)
 | .ret a,st,sw=>some ⟨a,st,[],[],sw⟩
 | .fail,_,_=>none
 | .get t k,st,sw=>if t < N then ((k (st.s t) (st.ep t)).runF N st sw).map fun r=>{ r with rd:=t::r.rd } else none
 | .getv t k,st,sw=>if t < N then ((k (st.s t)).runF N st sw).map fun r=>{ r with rd:=t::r.rd } else if sw.contains t then (k (st.s t)).runF N st sw else none
 | .put t v k,st,sw=>if t < N then (k.runF N (st.put t v) sw).map fun r=>{ r with wr:=t::r.wr } else k.runF N (st.put t v) (t::sw)
 | .upd t v k,st,sw=>if t < N then (k.runF N (st.set t v) sw).map fun r=>{ r with wr:=t::r.wr } else k.runF N (st.set t v) (t::sw)
 | .kill t q o m k,st,sw=>(k.runF N (st.kill t q o m) sw).map fun r=>{ r with rd:=List.range N++r.rd,wr:=List.range N++r.wr }
theorem a3h {N:Nat} {α:Type}:∀ (e:Ev α) (st:St) (sw:List Nat) (r:FR α),e.runF N st sw=some r->
  (∀ t,t∈r.rd\/t∈r.wr->t < N)/\(∀ t,t < N->t ∉ r.wr->agr st r.st t)/\e.run st=some (r.a,r.st)/\
  ∀ st2,(∀ t,t∈r.rd\/t∈r.wr->agr st st2 t)->(∀ t,t∈sw->st2.s t=st.s t)->
   ∃ st2',e.run st2=some (r.a,st2')/\(∀ t,t∈r.wr->agr r.st st2' t)/\(∀ t,t < N->t ∉ r.wr->agr st2 st2' t)/\∀ t,t∈r.sw->st2'.s t=r.st.s t
 | .ret a,st,sw,r,h=>by
  simp only [Ev.runF,Option.some.injEq] at h
  subst h
  exact ⟨fun t ht=>by simp at ht,fun t _ _=>agr.refl st t,rfl,fun st2 _ h2=>⟨st2,rfl,fun t ht=>by simp at ht,fun t _ _=>agr.refl st2 t,h2⟩⟩
 | .fail,st,sw,r,h=>by simp [Ev.runF] at h
 | .kill t q o m k,st,sw,r,h=>by
  simp only [Ev.runF] at h
  obtain ⟨r0,h0,rfl⟩:=Option.map_eq_some_iff.1 h
  obtain ⟨e1,e2,e3,e4⟩:=a3h _ _ sw r0 h0
  have hka:∀ {a b:St} {u:Nat},agr a b u->agr (a.kill t q o m) (b.kill t q o m) u:=fun h=>⟨by simp only [St.kill,h.1],h.2⟩
  refine ⟨fun u hu=> ?_,fun u hu hn=> ?_,e3,fun st2 g1 g2=> ?_⟩
  ·rcases hu with hu | hu<;>rcases List.mem_append.1 hu with hu | hu
   ·exact List.mem_range.1 hu
   ·exact e1 u (.inl hu)
   ·exact List.mem_range.1 hu
   ·exact e1 u (.inr hu)
  ·exact absurd (List.mem_append.2 (.inl (List.mem_range.2 hu))) hn
  ·have ha:∀ u,u < N->agr st st2 u:=fun u hu=>g1 u (.inl (List.mem_append.2 (.inl (List.mem_range.2 hu))))
   obtain ⟨st2',q1,q2,q3,q4⟩:=e4 (st2.kill t q o m) (fun u hu=>hka (ha u (e1 u hu))) (fun u hu=>by simp only [St.kill,g2 u hu])
   refine ⟨st2',q1,fun u hu=> ?_,fun u hu hn=>absurd (List.mem_append.2 (.inl (List.mem_range.2 hu))) hn,q4⟩
   have huN:u < N:=by
    rcases List.mem_append.1 hu with hu | hu
    ·exact List.mem_range.1 hu
    ·exact e1 u (.inr hu)
   by_cases hw:u∈r0.wr
   ·exact q2 u hw
   ·exact ((e2 u huN hw).symm.trans (hka (ha u huN))).trans (q3 u huN hw)
 | .get t k,st,sw,r,h=>by
  simp only [Ev.runF] at h
  split at h
  ·rename_i ht
   obtain ⟨r0,h0,rfl⟩:=Option.map_eq_some_iff.1 h
   obtain ⟨e1,e2,e3,e4⟩:=a3h _ st sw r0 h0
   refine ⟨fun u hu=> ?_,e2,e3,fun st2 g1 g2=> ?_⟩
   ·rcases hu with hu | hu
    ·rcases List.mem_cons.1 hu with rfl | hu
     ·exact ht
     ·exact e1 u (.inl hu)
    ·exact e1 u (.inr hu)
   ·obtain ⟨st2',q1,q2⟩:=e4 st2 (fun u hu=>g1 u (hu.imp (List.mem_cons_of_mem _) id)) g2
    refine ⟨st2',?_,q2⟩
    have:=g1 t (.inl (by simp))
    simp only [Ev.run,this.1,this.2]
    exact q1
  ·cases h
 | .getv t k,st,sw,r,h=>by
  simp only [Ev.runF] at h
  split at h
  ·rename_i ht
   obtain ⟨r0,h0,rfl⟩:=Option.map_eq_some_iff.1 h
   obtain ⟨e1,e2,e3,e4⟩:=a3h _ st sw r0 h0
   refine ⟨fun u hu=> ?_,e2,e3,fun st2 g1 g2=> ?_⟩
   ·rcases hu with hu | hu
    ·rcases List.mem_cons.1 hu with rfl | hu
     ·exact ht
     ·exact e1 u (.inl hu)
    ·exact e1 u (.inr hu)
   ·obtain ⟨st2',q1,q2⟩:=e4 st2 (fun u hu=>g1 u (hu.imp (List.mem_cons_of_mem _) id)) g2
    refine ⟨st2',?_,q2⟩
    have:=g1 t (.inl (by simp))
    simp only [Ev.run,this.1]
    exact q1
  ·split at h
   ·rename_i ht hc
    obtain ⟨e1,e2,e3,e4⟩:=a3h _ st sw r h
    refine ⟨e1,e2,e3,fun st2 g1 g2=> ?_⟩
    obtain ⟨st2',q1,q2⟩:=e4 st2 g1 g2
    refine ⟨st2',?_,q2⟩
    have:=g2 t (by simpa using hc)
    simp only [Ev.run,this]
    exact q1
   ·cases h
 | .put t v k,st,sw,r,h=>by
  simp only [Ev.runF] at h
  split at h
  ·rename_i ht
   obtain ⟨r0,h0,rfl⟩:=Option.map_eq_some_iff.1 h
   obtain ⟨e1,e2,e3,e4⟩:=a3h _ _ sw r0 h0
   refine ⟨fun u hu=> ?_,fun u hu hn=> ?_,e3,fun st2 g1 g2=> ?_⟩
   ·rcases hu with hu | hu
    ·exact e1 u (.inl hu)
    ·rcases List.mem_cons.1 hu with rfl | hu
     ·exact ht
     ·exact e1 u (.inr hu)
   ·simp only [List.mem_cons,not_or] at hn
    exact (agr.putn v hn.1).trans (e2 u hu hn.2)
   ·obtain ⟨st2',q1,q2,q3,q4⟩:=e4 (st2.put t v) (fun u hu=>(g1 u (hu.imp id (List.mem_cons_of_mem _))).put v) (fun u hu=>by
     by_cases hut:u=t
     ·subst hut; simp
     ·simp [hut,g2 u hu])
    refine ⟨st2',q1,fun u hu=> ?_,fun u hu hn=> ?_,q4⟩
    ·by_cases hw:u∈r0.wr
     ·exact q2 u hw
     ·have hu':u=t:=by rcases List.mem_cons.1 hu with rfl | hu; rfl; exact absurd hu hw
      subst hu'
      exact ((e2 u ht hw).symm.trans ((g1 u (.inr (by simp))).put v)).trans (q3 u ht hw)
    ·simp only [List.mem_cons,not_or] at hn
     exact (agr.putn v hn.1).trans (q3 u hu hn.2)
  ·rename_i ht
   obtain ⟨e1,e2,e3,e4⟩:=a3h _ _ (t::sw) r h
   refine ⟨e1,fun u hu hn=>(agr.putn v (by omega)).trans (e2 u hu hn),e3,fun st2 g1 g2=> ?_⟩
   obtain ⟨st2',q1,q2,q3,q4⟩:=e4 (st2.put t v) (fun u hu=>(g1 u hu).put v) (fun u hu=>by
    by_cases hut:u=t
    ·subst hut; simp
    ·rcases List.mem_cons.1 hu with rfl | hu
     ·exact absurd rfl hut
     ·simp [hut,g2 u hu])
   exact ⟨st2',q1,q2,fun u hu hn=>(agr.putn v (by omega)).trans (q3 u hu hn),q4⟩
 | .upd t v k,st,sw,r,h=>by
  simp only [Ev.runF] at h
  split at h
  ·rename_i ht
   obtain ⟨r0,h0,rfl⟩:=Option.map_eq_some_iff.1 h
   obtain ⟨e1,e2,e3,e4⟩:=a3h _ _ sw r0 h0
   refine ⟨fun u hu=> ?_,fun u hu hn=> ?_,e3,fun st2 g1 g2=> ?_⟩
   ·rcases hu with hu | hu
    ·exact e1 u (.inl hu)
    ·rcases List.mem_cons.1 hu with rfl | hu
     ·exact ht
     ·exact e1 u (.inr hu)
   ·simp only [List.mem_cons,not_or] at hn
    exact (agr.setn v hn.1).trans (e2 u hu hn.2)
   ·obtain ⟨st2',q1,q2,q3,q4⟩:=e4 (st2.set t v) (fun u hu=>(g1 u (hu.imp id (List.mem_cons_of_mem _))).set v) (fun u hu=>by
     by_cases hut:u=t
     ·subst hut; simp
     ·simp [hut,g2 u hu])
    refine ⟨st2',q1,fun u hu=> ?_,fun u hu hn=> ?_,q4⟩
    ·by_cases hw:u∈r0.wr
     ·exact q2 u hw
     ·have hu':u=t:=by rcases List.mem_cons.1 hu with rfl | hu; rfl; exact absurd hu hw
      subst hu'
      exact ((e2 u ht hw).symm.trans ((g1 u (.inr (by simp))).set v)).trans (q3 u ht hw)
    ·simp only [List.mem_cons,not_or] at hn
     exact (agr.setn v hn.1).trans (q3 u hu hn.2)
  ·rename_i ht
   obtain ⟨e1,e2,e3,e4⟩:=a3h _ _ (t::sw) r h
   refine ⟨e1,fun u hu hn=>(agr.setn v (by omega)).trans (e2 u hu hn),e3,fun st2 g1 g2=> ?_⟩
   obtain ⟨st2',q1,q2,q3,q4⟩:=e4 (st2.set t v) (fun u hu=>(g1 u hu).set v) (fun u hu=>by
    by_cases hut:u=t
    ·subst hut; simp
    ·rcases List.mem_cons.1 hu with rfl | hu
     ·exact absurd rfl hut
     ·simp [hut,g2 u hu])
   exact ⟨st2',q1,q2,fun u hu hn=>(agr.setn v (by omega)).trans (q3 u hu hn),q4⟩
open Classical
def d4s (P:Program) (G:GG) (N:Nat) (d:Option Nat) (act:IAct) (K:St->List Nat->List Nat->Prop) (st:St):Prop:=match act with
 | .op i=>match (a03 G N d i).runF N st [] with
  | some r=>K r.st r.rd r.wr
  | none=>False
 | .call f args _=>∃ r1 r2 r3 res,(a4q N (N+2) args).runF N st []=some r1/\(a27 N (N+2) args).runF N r1.st r1.sw=some r2/\ACalls P G f (a4j N args.length r2.st) res/\noRef res=true/\
   (b7q N d res).runF N ((if a0w res then r1.st else r2.st).clear N) []=some r3/\(∀ i,i < args.length->N+2+i∈r2.sw)/\
   K r3.st (r1.rd++r2.rd++r2.wr++r3.rd) (if a0w res then r1.wr++r3.wr else r1.wr++r2.wr++r3.wr)
 | .callx _ _ _ _=>False
 | .nilq _ _ _=>False
 | .bad _=>False
def b6p:AV->Bool
 | .var _=>true
 | _=>false
def a6d (V:List (Nat×Nat)) (st:St):Prop:=∀ p∈V,b6p (st.s p.1)=true/\st.ep p.1=p.2
structure Loc (P:Program) (G:GG) (N:Nat) (V:List (Nat×Nat)) (step:(St->Prop)->St->Prop) (st st':St) (rd wr:List Nat):Prop where
 lt:∀ t,t∈rd\/t∈wr->t < N
 frame:∀ t,t < N->t ∉ wr->agr st st' t
 loc:∀ st2,a6d V st2->(∀ t,t∈rd\/t∈wr->agr st st2 t)->∀ K:St->Prop,(∀ st2',(∀ t,t∈wr->agr st' st2' t)->(∀ t,t < N->t ∉ wr->agr st2 st2' t)->K st2')->step K st2
theorem a2i {N:Nat} (st:St) {t:Nat} (h:t < N):agr st (st.clear N) t:=by simp [agr,St.clear,h]
theorem b4h {V:List (Nat×Nat)} {P:Program} {G:GG} {N:Nat} {d:Option Nat} {act:IAct} {K:St->List Nat->List Nat->Prop} {st:St} (h:d4s P G N d act K st):∃ st' rd wr,K st' rd wr/\Loc P G N V (b23 P G N d act) st st' rd wr:=by
 cases act with
 | op i=>
  simp only [d4s] at h
  split at h
  ·rename_i r hr
   obtain ⟨e1,e2,e3,e4⟩:=a3h _ _ _ r hr
   refine ⟨_,_,_,h,e1,e2,fun st2 _ g1 K2 hK=> ?_⟩
   obtain ⟨st2',q1,q2,q3,_⟩:=e4 st2 g1 (fun t ht=>by simp at ht)
   simp only [b23,q1]
   exact hK st2' q2 q3
  ·exact h.elim
 | call f args tys=>
  simp only [d4s] at h
  obtain ⟨r1,r2,r3,res,h1,h2,hA,hn,h3,hsw,hK⟩:=h
  obtain ⟨a1,a2,a3,a4⟩:=a3h _ _ _ r1 h1
  obtain ⟨b1,b2,b3,b4⟩:=a3h _ _ _ r2 h2
  obtain ⟨c1,c2,c3,c4⟩:=a3h _ _ _ r3 h3
  have hlt:∀ t,t∈r1.rd++r2.rd++r2.wr++r3.rd\/t∈(if a0w res then r1.wr++r3.wr else r1.wr++r2.wr++r3.wr)->t < N:=fun t ht=>by
   have:t∈r1.rd\/t∈r2.rd\/t∈r2.wr\/t∈r3.rd\/t∈r1.wr\/t∈r3.wr:=by
    rcases ht with ht | ht
    ·simp only [List.mem_append] at ht; rcases ht with ((ht | ht) | ht) | ht<;>simp [ht]
    ·split at ht<;>simp only [List.mem_append] at ht
     ·rcases ht with ht | ht<;>simp [ht]
     ·rcases ht with (ht | ht) | ht<;>simp [ht]
   rcases this with ht | ht | ht | ht | ht | ht
   ·exact a1 t (.inl ht)
   ·exact b1 t (.inl ht)
   ·exact b1 t (.inr ht)
   ·exact c1 t (.inl ht)
   ·exact a1 t (.inr ht)
   ·exact c1 t (.inr ht)
  refine ⟨_,_,_,hK,hlt,fun t ht hnw=> ?_,fun st2 _ g K2 hK2=> ?_⟩
  ·by_cases hni:a0w res=true
   ·rw [if_pos hni] at hnw c2
    simp only [List.mem_append,not_or] at hnw
    exact ((a2 t ht hnw.1).trans (a2i _ ht)).trans (c2 t ht hnw.2)
   ·rw [if_neg hni] at hnw c2
    simp only [List.mem_append,not_or] at hnw
    exact (((a2 t ht hnw.1.1).trans (b2 t ht hnw.1.2)).trans (a2i _ ht)).trans (c2 t ht hnw.2)
  ·have w1:∀ t,t∈r1.wr->agr st st2 t:=fun t ht=>g t (.inr (by split<;>simp [ht]))
   have w3:∀ t,t∈r3.wr->agr st st2 t:=fun t ht=>g t (.inr (by split<;>simp [ht]))
   have gr:∀ t,(t∈r1.rd\/t∈r2.rd\/t∈r2.wr\/t∈r3.rd)->agr st st2 t:=fun t ht=>g t (.inl (by simp only [List.mem_append]; rcases ht with ht | ht | ht | ht<;>simp [ht]))
   obtain ⟨s1,p1,p2,p3,p4⟩:=a4 st2 (fun t ht=>ht.elim (fun ht=>gr t (.inl ht)) (w1 t)) (fun t ht=>by simp at ht)
   have k1:∀ t,t < N->agr st st2 t->agr r1.st s1 t:=fun t ht hg=>by
    by_cases hw:t∈r1.wr
    ·exact p2 t hw
    ·exact ((a2 t ht hw).symm.trans hg).trans (p3 t ht hw)
   obtain ⟨s2,q1,q2,q3,q4⟩:=b4 s1 (fun t ht=>k1 t (b1 t ht) (gr t (ht.elim (fun h=> .inr (.inl h)) fun h=> .inr (.inr (.inl h))))) p4
   have k2:∀ t,t < N->agr st st2 t->agr r2.st s2 t:=fun t ht hg=>by
    by_cases hw:t∈r2.wr
    ·exact q2 t hw
    ·exact ((b2 t ht hw).symm.trans (k1 t ht hg)).trans (q3 t ht hw)
   have hpre:a4j N args.length s2=a4j N args.length r2.st:=by
    unfold a4j
    apply List.map_congr_left
    intro i hi
    exact q4 _ (hsw i (by simpa using hi))
   by_cases hni:a0w res=true
   ·rw [if_pos hni] at c2 c4 h3 hK2
    obtain ⟨s3,t1,t2,t3,_⟩:=c4 (s1.clear N) (fun t ht=>by
     have htN:=c1 t ht
     have:=ht.elim (fun h=>gr t (.inr (.inr (.inr h)))) (w3 t)
     exact ((a2i _ htN).symm.trans (k1 t htN this)).trans (a2i _ htN)) (fun t ht=>by simp at ht)
    refine ⟨s1,s2,res,s3,p1,q1,by rw [hpre]; exact hA,hn,by rw [if_pos hni]; exact t1,hK2 s3 (fun t ht=> ?_) fun t ht hnw=> ?_⟩
    ·by_cases hw:t∈r3.wr
     ·exact t2 t hw
     ·have hw1:t∈r1.wr:=by simpa [hw] using ht
      have htN:=a1 t (.inr hw1)
      exact ((c2 t htN hw).symm.trans (((a2i _ htN).symm.trans (p2 t hw1)).trans (a2i _ htN))).trans (t3 t htN hw)
    ·simp only [List.mem_append,not_or] at hnw
     exact ((p3 t ht hnw.1).trans (a2i _ ht)).trans (t3 t ht hnw.2)
   ·rw [if_neg hni] at c2 c4 h3 hK2
    obtain ⟨s3,t1,t2,t3,_⟩:=c4 (s2.clear N) (fun t ht=>by
     have htN:=c1 t ht
     have:=ht.elim (fun h=>gr t (.inr (.inr (.inr h)))) (w3 t)
     exact ((a2i _ htN).symm.trans (k2 t htN this)).trans (a2i _ htN)) (fun t ht=>by simp at ht)
    refine ⟨s1,s2,res,s3,p1,q1,by rw [hpre]; exact hA,hn,by rw [if_neg hni]; exact t1,hK2 s3 (fun t ht=> ?_) fun t ht hnw=> ?_⟩
    ·by_cases hw:t∈r3.wr
     ·exact t2 t hw
     ·have hg:agr st st2 t:=by
       rcases (by simpa [hw] using ht:t∈r1.wr\/t∈r2.wr) with h | h
       ·exact w1 t h
       ·exact gr t (.inr (.inr (.inl h)))
      have htN:t < N:=by
       rcases (by simpa [hw] using ht:t∈r1.wr\/t∈r2.wr) with h | h
       ·exact a1 t (.inr h)
       ·exact b1 t (.inr h)
      exact ((c2 t htN hw).symm.trans (((a2i _ htN).symm.trans (k2 t htN hg)).trans (a2i _ htN))).trans (t3 t htN hw)
    ·simp only [List.mem_append,not_or] at hnw
     exact (((p3 t ht hnw.1.1).trans (q3 t ht hnw.1.2)).trans (a2i _ ht)).trans (t3 t ht hnw.2)
 | callx cv args lay tys=>exact h.elim
 | nilq T x yT=>exact h.elim
 | bad o=>exact h.elim
open Classical
def b52 (o:Oper):List Nat:=(o.after.toList.filter (Region.binds .any)).map (·.on)
def c7k:List (List Nat)->List (List Nat)->List (List Nat)
 | [],acc=>acc
 | a::rest,acc=>c7k rest (acc++[a++a.flatMap fun k=>acc.getD k []])
def c8h (aft anc:List (List Nat)):Bool:=decide (aft.length=anc.length)&&(List.range aft.length).all fun j=>
 (aft.getD j []).all (fun k=>decide (k < j))&&(anc.getD j []).all fun k=>(aft.getD j []).contains k||(aft.getD j []).any fun m=>(anc.getD m []).contains k
def c87 (x y:List Nat×List Nat):Bool:=(x.2.all fun t=> !(y.1.contains t)&& !(y.2.contains t))&&y.2.all fun t=> !(x.1.contains t)
def b3p (aft:List (List Nat)) (fps:List (List Nat×List Nat)):Bool:=
 let anc:=c7k aft []
 c8h aft anc&&(List.range fps.length).all fun j=>(List.range j).all fun i=>(anc.getD j []).contains i||c87 (fps.getD i ([],[])) (fps.getD j ([],[]))
inductive Anc (aft:List (List Nat)):Nat->Nat->Prop where
 | base {k i:Nat}:k∈aft.getD i []->Anc aft k i
 | step {k m i:Nat}:Anc aft k m->m∈aft.getD i []->Anc aft k i
theorem b77 {aft anc:List (List Nat)} (h:c8h aft anc=true):∀ j,j < aft.length->(∀ k,k∈aft.getD j []->k < j)/\∀ k,k∈anc.getD j []->Anc aft k j:=by
 simp only [c8h,Bool.and_eq_true,List.all_eq_true,decide_eq_true_eq,Bool.or_eq_true,List.any_eq_true,List.mem_range] at h
 intro j
 induction j using Nat.strongRecOn with
 | _ j ih=>
  intro hj
  obtain ⟨h1,h2⟩:=h.2 j hj
  refine ⟨h1,fun k hk=> ?_⟩
  rcases h2 k hk with h3 | ⟨m,hm,h3⟩
  ·exact .base (by simpa using h3)
  ·exact .step ((ih m (h1 m hm) (Nat.lt_trans (h1 m hm) hj)).2 k (by simpa using h3)) hm
def dCh (P:Program) (G:GG) (N:Nat) (V:List (Nat×Nat)):List AO->List (List Nat×List Nat)->(St->List (List Nat×List Nat)->Prop)->St->Prop
 | [],fps,K,st=>K st fps
 | io::rest,fps,K,st=>∃ st' rd wr,Loc P G N V (a8j P G N io) st st' rd wr/\a6d V st'/\dCh P G N V rest (fps++[(rd,wr)]) K st'
def d4o (P:Program) (G:GG) (N:Nat) (ios:List AO) (aft:List (List Nat)) (K:St->Prop) (st:St):Prop:=
 ∃ V:List (Nat×Nat),(∀ p∈V,p.1 < N)/\a6d V st/\dCh P G N V ios [] (fun stn fps=>b3p aft fps=true/\∀ st',(∀ t,t < N->agr stn st' t)->K st') st
theorem b6e {P:Program} {G:GG} {N:Nat} {V:List (Nat×Nat)}:∀ (is:List AO) (fps:List (List Nat×List Nat)) (K:St->List (List Nat×List Nat)->Prop) (st:St),a6d V st->dCh P G N V is fps K st->
  ∃ (S:Nat->St) (fp:List (List Nat×List Nat)),S 0=st/\fp.length=is.length/\K (S is.length) (fps++fp)/\(∀ i,a6d V (S i))/\∀ i io,is[i]? =some io->Loc P G N V (a8j P G N io) (S i) (S (i+1)) (fp.getD i ([],[])).1 (fp.getD i ([],[])).2
 | [],fps,K,st,h0,h=>⟨fun _=>st,[],rfl,rfl,by simpa [dCh] using h,fun _=>h0,fun i io hi=>by simp at hi⟩
 | io::is,fps,K,st,h0,h=>by
  simp only [dCh] at h
  obtain ⟨st',rd,wr,hL,hI,h1⟩:=h
  obtain ⟨S,fp,e1,e2,e3,e5,e4⟩:=b6e is (fps++[(rd,wr)]) K st' hI h1
  refine ⟨fun n=>match n with | 0=>st | n+1=>S n,(rd,wr)::fp,rfl,by simp [e2],by simpa using e3,fun i=>(by
   cases i with
   | zero=>exact h0
   | succ i=>exact e5 i),fun i io' hi=> ?_⟩
  cases i with
  | zero=>
   simp only [List.getElem?_cons_zero,Option.some.injEq] at hi
   subst hi
   simp only [List.getD_cons_zero]
   rw [e1]; exact hL
  | succ i=>
   simp only [List.getD_cons_succ]
   exact e4 i io' (by simpa using hi)
section
variable {P:Program} {G:GG} {N n:Nat} {S:Nat->St} {rd wr:Nat->List Nat}
theorem a47 (hF:∀ i,i < n->∀ t,t < N->t ∉ wr i->agr (S i) (S (i+1)) t) {t:Nat} (ht:t < N):∀ (m i:Nat),i<=m->m<=n->(∀ k,i<=k->k < m->t ∉ wr k)->agr (S i) (S m) t
 | 0,i,h1,_,_=>by obtain rfl:i=0:=by omega
                  exact agr.refl _ _
 | m+1,i,h1,h2,h3=>by
  by_cases hi:i=m+1
  ·subst hi; exact agr.refl _ _
  ·exact (a47 hF ht m i (by omega) (by omega) (fun k hk hk2=>h3 k hk (by omega))).trans (hF m (by omega) t ht (h3 m (by omega) (by omega)))
def e6j (N:Nat) (S:Nat->St) (wr:Nat->List Nat) (L:Nat->Prop) (st:St):Prop:=∀ t,t < N->
 (∀ j,L j->t∈wr j->(∀ k,L k->t∈wr k->k<=j)->agr (S (j+1)) st t)/\((∀ j,L j->t ∉ wr j)->agr (S 0) st t)
theorem b4v {p:Nat->Prop}:∀ (m:Nat),(∃ k,k < m/\p k)->∃ j,j < m/\p j/\∀ k,k < m->p k->k<=j
 | 0,⟨k,hk,_⟩=>by omega
 | m+1,⟨k,hk,hp⟩=>by
  by_cases hm:p m
  ·exact ⟨m,by omega,hm,fun k hk _=>by omega⟩
  ·have:k≠m:=fun h=>hm (h ▸ hp)
   obtain ⟨j,h1,h2,h3⟩:=b4v m ⟨k,by omega,hp⟩
   refine ⟨j,by omega,h2,fun k hk hp=> ?_⟩
   have:k≠m:=fun h=>hm (h ▸ hp)
   exact h3 k (by omega) hp
theorem c5n (hF:∀ i,i < n->∀ t,t < N->t ∉ wr i->agr (S i) (S (i+1)) t) {L:Nat->Prop} {st:St} (hInv:e6j N S wr L st) (hL:∀ k,L k->k < n) {i:Nat} (hi:i < n) {t:Nat} (ht:t < N)
  (h1:∀ k,L k->t∈wr k->k < i) (h2:∀ k,k < i->t∈wr k->L k):agr (S i) st t:=by
 by_cases hex:∃ k,k < i/\t∈wr k
 ·obtain ⟨j,e1,e2,e3⟩:=b4v (p:=fun k=>t∈wr k) i hex
  have hj:=(hInv t ht).1 j (h2 j e1 e2) e2 (fun k hk hw=>e3 k (h1 k hk hw) hw)
  exact (a47 hF ht i (j+1) (by omega) (by omega) (fun k hk hk2 hw=>by have:=e3 k hk2 hw; omega)).symm.trans hj
 ·have hj:=(hInv t ht).2 (fun j hj hw=>hex ⟨j,h1 j hj hw,hw⟩)
  exact (a47 hF ht i 0 (by omega) (by omega) (fun k _ hk hw=>hex ⟨k,hk,hw⟩)).symm.trans hj
end
theorem b6y {ops:Array Oper} {listed:Array Bool} {i:Nat} (h:i∈Region.ready .any ops listed):i < ops.size/\listed.getD i true=false/\∃ o,ops[i]? =some o/\∀ k,k∈b52 o->listed.getD k false=true:=by
 simp only [Region.ready,List.mem_filter,List.mem_range,Bool.and_eq_true,Bool.not_eq_true'] at h
 obtain ⟨h1,h2,h3⟩:=h
 refine ⟨h1,h2,ops[i],by simp [h1],fun k hk=> ?_⟩
 simp only [h1,Array.getElem?_eq_getElem,Option.map_some,Option.getD_some,Array.all_eq_true] at h3
 simp only [b52,List.mem_map,List.mem_filter] at hk
 obtain ⟨e,⟨he,hb⟩,rfl⟩:=hk
 obtain ⟨m,hm,rfl⟩:=Array.mem_iff_getElem.1 (Array.mem_toList_iff.1 he)
 have:=h3 m hm
 simp only [hb,Bool.not_true,Bool.false_or] at this
 exact this
theorem c66 {ops:Array Oper} {listed:Array Bool} {i:Nat} {o:Oper} (h1:ops[i]? =some o) (h2:listed.getD i true=false) (h3:∀ k,k∈b52 o->listed.getD k false=true):i∈Region.ready .any ops listed:=by
 have hlt:=(Array.getElem?_eq_some_iff.1 h1).1
 simp only [Region.ready,List.mem_filter,List.mem_range,Bool.and_eq_true,Bool.not_eq_true']
 refine ⟨hlt,h2,?_⟩
 simp only [h1,Option.map_some,Option.getD_some,Array.all_eq_true]
 intro m hm
 by_cases hb:Region.binds .any o.after[m]=true
 ·have:=h3 o.after[m].on (by
   simp only [b52,List.mem_map,List.mem_filter]
   exact ⟨_,⟨by simp,hb⟩,rfl⟩)
  simp [this]
 ·simp [hb]
open Classical
theorem c0z {x y:List Nat×List Nat} (h:c87 x y=true):(∀ t,t∈x.2->t ∉ y.1/\t ∉ y.2)/\∀ t,t∈y.2->t ∉ x.1:=by
 simp only [c87,Bool.and_eq_true,List.all_eq_true,Bool.not_eq_true',List.contains_iff_mem] at h
 refine ⟨fun t ht=> ?_,fun t ht=> ?_⟩
 ·have:=h.1 t ht
  simpa using this
 ·have:=h.2 t ht
  simpa using this
theorem c2r {n:Nat} {listed:Array Bool} (hsz:listed.size=n) {i:Nat} (hi:i < n) (h:listed.getD i true=false) :
  ((List.range n).filter fun j=> !(listed.setIfInBounds i true).getD j true).length+1=((List.range n).filter fun j=> !listed.getD j true).length:=by
 have key:∀ (l:List Nat),l.Nodup->(i∈l->((l.filter fun j=> !(listed.setIfInBounds i true).getD j true).length+1=(l.filter fun j=> !listed.getD j true).length))/\(i ∉ l->((l.filter fun j=> !(listed.setIfInBounds i true).getD j true)=(l.filter fun j=> !listed.getD j true))):=by
  intro l
  induction l with
  | nil=>intro _; exact ⟨fun h=>by simp at h,fun _=>rfl⟩
  | cons x l ih=>
   intro hn
   obtain ⟨hx,hl⟩:=List.nodup_cons.1 hn
   obtain ⟨i1,i2⟩:=ih hl
   by_cases hxi:x=i
   ·subst hxi
    refine ⟨fun _=> ?_,fun hc=>by simp at hc⟩
    have h1:(!(listed.setIfInBounds x true).getD x true)=false:=by simp [Array.getD_eq_getD_getElem?,Array.getElem?_setIfInBounds,hsz,hi]
    have h2:(!listed.getD x true)=true:=by rw [h]; rfl
    rw [List.filter_cons,List.filter_cons,h1,h2,i2 hx]
    rfl
   ·have h1:(listed.setIfInBounds i true).getD x true=listed.getD x true:=by
     simp [Array.getD_eq_getD_getElem?,Array.getElem?_setIfInBounds_ne (Ne.symm hxi)]
    rw [List.filter_cons,List.filter_cons,h1]
    refine ⟨fun hc=> ?_,fun hc=> ?_⟩
    ·have hil:i∈l:=by rcases List.mem_cons.1 hc with rfl | hc; exact absurd rfl hxi; exact hc
     have:=i1 hil
     cases hb:listed.getD x true with
     | true=>exact this
     | false=>simp only [Bool.not_false,if_true,List.length_cons]; omega
    ·have hil:i ∉ l:=fun hc2=>hc (List.mem_cons_of_mem _ hc2)
     rw [i2 hil]
 exact (key _ List.nodup_range).1 (List.mem_range.2 hi)
theorem c2v {V:List (Nat×Nat)} {pins:List Nat} {a0:Act} {E:Env} {P:Program} {G:GG} {N:Nat} {ops:Array Oper} {ios:List AO} {aft:List (List Nat)} {S:Nat->St} {fp:List (List Nat×List Nat)} {K:St->Prop} {Q:Exit->Act->World->Prop}
  (hm:ops.toList.map o3=ios.map AO.e3) (ha:ops.toList.map b52=aft) (hok:c1s P N ios=true) (hpin:∀ io∈ios,∀ t∈pins,io.dst≠some t) (hG:E.G=G) (hfp:fp.length=ios.length)
  (hVN:∀ p∈V,p.1 < N) (hVS:∀ i,a6d V (S i)) (hLoc:∀ i io,ios[i]? =some io->Loc P G N V (a8j P G N io) (S i) (S (i+1)) (fp.getD i ([],[])).1 (fp.getD i ([],[])).2) (hind:b3p aft fp=true)
  (hfin:∀ st',(∀ t,t < N->agr (S ios.length) st' t)->K st') (hK:∀ st' a' w' val' ow',K st'->(∀ t∈pins,a'.tmps.getD t undef=a0.tmps.getD t undef)->Sim E N st' a' w' val' ow'->Q .normal a' w') :
  ∀ (fuel:Nat) (listed:Array Bool) {st:St} {a:Act} {w:World} {val:Nat->Value} {ow:Nat->Option Nat},listed.size=ops.size->((List.range ops.size).filter fun i=> !listed.getD i true).length=fuel->
   (∀ j,listed.getD j false=true->∀ k,k∈aft.getD j []->listed.getD k false=true)->e6j N S (fun i=>(fp.getD i ([],[])).2) (fun j=>listed.getD j false=true) st->(∀ t∈pins,a.tmps.getD t undef=a0.tmps.getD t undef)->Sim E N st a w val ow->wpAny P .any ops Q fuel listed a w:=by
 have hsz:ops.size=ios.length:=by have:=congrArg List.length hm; simpa using this
 have hasz:aft.length=ios.length:=by rw [<-ha]; simp [hsz]
 have haft:∀ i o,ops[i]? =some o->aft.getD i []=b52 o:=fun i o ho=>by
  rw [<-ha]
  have:ops.toList[i]? =some o:=by simpa using ho
  simp [List.getD_eq_getElem?_getD,this]
 simp only [b3p,Bool.and_eq_true,List.all_eq_true,List.mem_range,Bool.or_eq_true] at hind
 obtain ⟨hanc,hpair⟩:=hind
 have hS:=b77 hanc
 have hF:∀ i,i < ios.length->∀ t,t < N->t ∉ (fp.getD i ([],[])).2->agr (S i) (S (i+1)) t:=fun i hi t ht hn=>by
  exact (hLoc i ios[i] (by simp [hi])).frame t ht hn
 have hdep:∀ i j,i < j->j < ios.length->(∃ t,(t∈(fp.getD i ([],[])).2/\(t∈(fp.getD j ([],[])).1\/t∈(fp.getD j ([],[])).2))\/(t∈(fp.getD j ([],[])).2/\t∈(fp.getD i ([],[])).1))->Anc aft i j:=fun i j hij hj ⟨t,ht⟩=>by
  rcases hpair j (by omega) i hij with h1 | h1
  ·exact (hS j (by omega)).2 i (by simpa using h1)
  ·obtain ⟨d1,d2⟩:=c0z h1
   rcases ht with ⟨h2,h3⟩ | ⟨h2,h3⟩
   ·exact (h3.elim (d1 t h2).1 (d1 t h2).2).elim
   ·exact (d2 t h2 h3).elim
 intro fuel
 induction fuel with
 | zero=>
  intro listed st a w val ow hls hcount hclosed hInv hp hs
  have hall:∀ i,i < ops.size->listed.getD i true=true:=fun i hi=>by
   have h0:=List.eq_nil_of_length_eq_zero hcount
   rw [List.filter_eq_nil_iff] at h0
   have:=h0 i (List.mem_range.2 hi)
   simpa using this
  have hlast:Q .normal a w:=by
   refine hK st a w val ow (hfin st fun t ht=> ?_) hp hs
   have hLi:∀ i,i < ios.length->listed.getD i false=true:=fun i hi=>by
    have:=hall i (by omega)
    simp only [Array.getD_eq_getD_getElem?] at this ⊢
    have hl:i < listed.size:=by omega
    simpa [hl] using this
   by_cases hex:∃ k,k < ios.length/\t∈(fp.getD k ([],[])).2
   ·obtain ⟨j,e1,e2,e3⟩:=b4v (p:=fun k=>t∈(fp.getD k ([],[])).2) _ hex
    have hout:∀ k,listed.getD k false=true->k < ios.length:=fun k hk=>by
     by_cases hkl:k < listed.size
     ·omega
     ·simp [Array.getD_eq_getD_getElem?,hkl] at hk
    have hj:=(hInv t ht).1 j (hLi j e1) e2 (fun k hk hw=>e3 k (hout k hk) hw)
    exact (a47 (n:=ios.length) hF ht ios.length (j+1) (by omega) (Nat.le_refl _) (fun k hk hk2 hw=>by have:=e3 k hk2 hw; omega)).symm.trans hj
   ·have hout:∀ k,listed.getD k false=true->k < ios.length:=fun k hk=>by
     by_cases hkl:k < listed.size
     ·omega
     ·simp [Array.getD_eq_getD_getElem?,hkl] at hk
    have hj:=(hInv t ht).2 (fun j hj hw=>hex ⟨j,hout j hj,hw⟩)
    exact (a47 (n:=ios.length) hF ht ios.length 0 (by omega) (Nat.le_refl _) (fun k _ hk hw=>hex ⟨k,hk,hw⟩)).symm.trans hj
  refine ⟨?_,hlast⟩
  cases hr:Region.ready .any ops listed with
  | nil=>rfl
  | cons i l=>
   obtain ⟨h1,h2,_⟩:=b6y (by rw [hr]; simp:i∈Region.ready .any ops listed)
   rw [hall i h1] at h2; cases h2
 | succ fuel ih=>
  intro listed st a w val ow hls hcount hclosed hInv hp hs
  refine ⟨fun hr=> ?_,fun i hi=> ?_⟩
  ·-- the first that isn't listed is ready
   exfalso
   have hex:∃ i,i < ops.size/\listed.getD i true=false:=by
    cases hf:(List.range ops.size).filter fun i=> !listed.getD i true with
    | nil=>rw [hf] at hcount; simp at hcount
    | cons x l=>
     have:x∈(List.range ops.size).filter fun i=> !listed.getD i true:=by rw [hf]; simp
     simp only [List.mem_filter,List.mem_range,Bool.not_eq_true'] at this
     exact ⟨x,this⟩
   have hmin:∃ i,(i < ops.size/\listed.getD i true=false)/\∀ k,k < i->¬ (k < ops.size/\listed.getD k true=false):=by
    obtain ⟨i,hi⟩:=hex
    induction i using Nat.strongRecOn with
    | _ i ihm=>
     by_cases hx:∃ k,k < i/\(k < ops.size/\listed.getD k true=false)
     ·obtain ⟨k,h1,h2⟩:=hx; exact ihm k h1 h2
     ·exact ⟨i,hi,fun k h1 h2=>hx ⟨k,h1,h2⟩⟩
   obtain ⟨i,⟨h1,h2⟩,h3⟩:=hmin
   have:i∈Region.ready .any ops listed:=c66 (o:=ops[i]) (by simp [h1]) h2 (fun k hk=>by
    have hk':k∈aft.getD i []:=by rw [haft i ops[i] (by simp [h1])]; exact hk
    have hki:=(hS i (by omega)).1 k hk'
    have:=h3 k hki
    have hkl:k < listed.size:=by omega
    simp only [Array.getD_eq_getD_getElem?] at this ⊢
    simp [hkl,show k < ops.size by omega] at this ⊢
    exact this)
   rw [hr] at this; simp at this
  ·obtain ⟨h1,h2,o,ho,h3⟩:=b6y hi
   have hin:i < ios.length:=by omega
   have hio:ios[i]? =some ios[i]:=by simp [hin]
   have hmi:o3 o=ios[i].e3:=by
    have h4:(ops.toList.map o3)[i]? =(ios.map AO.e3)[i]? :=by rw [hm]
    have h5:ops.toList[i]? =some o:=by simpa using ho
    simp only [List.getElem?_map,h5,hio,Option.map_some,Option.some.injEq] at h4
    exact h4
   have hnL:¬ listed.getD i false=true:=by
    have hl:i < listed.size:=by omega
    simp only [Array.getD_eq_getD_getElem?] at h2 ⊢
    simp [hl] at h2 ⊢
    exact h2
   have hLn:∀ k,listed.getD k false=true->k < ios.length:=fun k hk=>by
    by_cases hkl:k < listed.size
    ·omega
    ·simp [Array.getD_eq_getD_getElem?,hkl] at hk
   have hancL:∀ j k,Anc aft k j->(∀ m,m∈aft.getD j []->listed.getD m false=true)->listed.getD k false=true:=fun j k hA=>by
    induction hA with
    | base hk=>intro hc; exact hc _ hk
    | step hA hmem ihA=>intro hc; exact ihA (fun m hm2=>hclosed _ (hc _ hmem) m hm2)
   have hai:∀ m,m∈aft.getD i []->listed.getD m false=true:=fun m hm2=>h3 m (by rw [<-haft i o ho]; exact hm2)
   have hL:=hLoc i ios[i] hio
   have hbef:∀ t,(t∈(fp.getD i ([],[])).1\/t∈(fp.getD i ([],[])).2)->∀ k,listed.getD k false=true->t∈(fp.getD k ([],[])).2->k < i:=fun t ht k hk hw=>by
    rcases Nat.lt_trichotomy k i with h | h | h
    ·exact h
    ·subst h; exact absurd hk hnL
    ·have hA:=hdep i k h (hLn k hk) ⟨t,by
      rcases ht with ht | ht
      ·exact .inr ⟨hw,ht⟩
      ·exact .inl ⟨ht,.inr hw⟩⟩
     exact absurd (hancL k i hA (hclosed k hk)) hnL
   have hbef2:∀ t,(t∈(fp.getD i ([],[])).1\/t∈(fp.getD i ([],[])).2)->∀ k,k < i->t∈(fp.getD k ([],[])).2->listed.getD k false=true:=fun t ht k hk hw=>
    hancL i k (hdep k i hk hin ⟨t,.inl ⟨hw,ht⟩⟩) hai
   have hst:∀ t,(t∈(fp.getD i ([],[])).1\/t∈(fp.getD i ([],[])).2)->agr (S i) st t:=fun t ht=>
    c5n (n:=ios.length) hF hInv hLn hin (hL.lt t ht) (hbef t ht) (hbef2 t ht)
   have hIV:a6d V st:=fun p hp=>by
    have hag:∃ m,agr (S m) st p.1:=by
     by_cases hex:∃ k,k < ios.length/\listed.getD k false=true/\p.1∈(fp.getD k ([],[])).2
     ·obtain ⟨j,e1,e2,e3⟩:=b4v (p:=fun k=>listed.getD k false=true/\p.1∈(fp.getD k ([],[])).2) _ hex
      exact ⟨j+1,(hInv p.1 (hVN p hp)).1 j e2.1 e2.2 (fun k hk hw=>e3 k (hLn k hk) ⟨hk,hw⟩)⟩
     ·exact ⟨0,(hInv p.1 (hVN p hp)).2 (fun j hj hw=>hex ⟨j,hLn j hj,hj,hw⟩)⟩
    obtain ⟨m,hm1,hm2⟩:=hag
    have:=hVS m p hp
    rw [<-hm1,<-hm2] at this
    exact this
   have hstep:=hL.loc st hIV hst (fun st2=>e6j N S (fun i=>(fp.getD i ([],[])).2) (fun j=>(listed.setIfInBounds i true).getD j false=true) st2) (fun st2' g1 g2=>by
    have hL':∀ j,(listed.setIfInBounds i true).getD j false=true↔j=i\/listed.getD j false=true:=fun j=>by
     by_cases hj:j=i
     ·subst hj
      have hl:j < listed.size:=by omega
      simp [Array.getD_eq_getD_getElem?,Array.getElem?_setIfInBounds,hl]
     ·simp [Array.getD_eq_getD_getElem?,Array.getElem?_setIfInBounds_ne (Ne.symm hj),hj]
    intro t ht
    by_cases hw:t∈(fp.getD i ([],[])).2
    ·refine ⟨fun j hj hjw hmax=> ?_,fun hn=>absurd hw (hn i ((hL' i).2 (.inl rfl)))⟩
     have hij:=hmax i ((hL' i).2 (.inl rfl)) hw
     rcases (hL' j).1 hj with rfl | hj2
     ·exact g1 t hw
     ·have:=hbef t (.inr hw) j hj2 hjw; omega
    ·refine ⟨fun j hj hjw hmax=> ?_,fun hn=> ?_⟩
     ·rcases (hL' j).1 hj with rfl | hj2
      ·exact absurd hjw hw
      ·exact ((hInv t ht).1 j hj2 hjw (fun k hk hkw=>hmax k ((hL' k).2 (.inr hk)) hkw)).trans (g2 t ht hw)
     ·exact ((hInv t ht).2 (fun j hj=>hn j ((hL' j).2 (.inr hj)))).trans (g2 t ht hw))
   have hokio:=List.all_eq_true.1 hok ios[i] (by simp)
   have hcl':∀ j,(listed.setIfInBounds i true).getD j false=true->∀ k,k∈aft.getD j []->(listed.setIfInBounds i true).getD k false=true:=fun j hj k hk=>by
    have mono:listed.getD k false=true->(listed.setIfInBounds i true).getD k false=true:=fun h=>by
     by_cases hki:k=i
     ·subst hki; exact absurd h hnL
     ·simp only [Array.getD_eq_getD_getElem?,Array.getElem?_setIfInBounds_ne (Ne.symm hki)] at h ⊢
      exact h
    by_cases hji:j=i
    ·subst hji; exact mono (hai k hk)
    ·refine mono (hclosed j ?_ k hk)
     simpa [Array.getD_eq_getD_getElem?,Array.getElem?_setIfInBounds_ne (Ne.symm hji)] using hj
   have hcnt:=c2r hls h1 h2
   have hrun:=b36 (K':=fun a' w'=>wpAny P .any ops Q fuel (listed.setIfInBounds i true) a' w') (Q:=Q) hs hG hm hmi hokio hstep (fun st' a' w' val' ow' hk hkp hs'=>
    ih (listed.setIfInBounds i true) (by simpa using hls) (by omega) hcl' hk (fun t ht=>(hkp t (by
     have e1:o.dst=ios[i].dst:=by have:=hmi; simp only [o3,AO.e3,Prod.mk.injEq] at this; exact this.1
     rw [e1]; exact hpin _ (by simp) t ht)).trans (hp t ht)) hs')
   unfold wpOp
   rw [ho]
   simp only
   split
   ·rename_i hw; rw [if_pos hw] at hrun; exact .inl hrun
   ·rename_i hw; rw [if_neg hw] at hrun; exact hrun
theorem AWp.draw {pins:List Nat} {P:Program} {G:GG} {N:Nat} {id:Nat} {ops:Array Oper} {ios:List AO} {aft:List (List Nat)} {Q:Exit->St->Prop} {st:St} (hord:P.follows .mixedOrders=true) (hm:ops.toList.map o3=ios.map AO.e3) (ha:ops.toList.map b52=aft) (hok:c1s P N ios=true) (hpin:∀ io∈ios,∀ t∈pins,io.dst≠some t)
  (h:d4o P G N ios aft (Q .normal) st):AWp P G N pins (.region id ops true) Q st:=fun E a w val ow hG hs=>by
 obtain ⟨V,hVN,hV0,h⟩:=h
 obtain ⟨S,fp,e1,e2,⟨e3,e4⟩,e6,e5⟩:=b6e ios [] _ st hV0 h
 rw [List.nil_append] at e3
 refine wp_region_any hord ?_
 have hs2:Sim E N st a { w with drawn:=w.drawn+1 } val ow:=hs.world rfl rfl rfl rfl
 have hsz:ops.size=ios.length:=by have:=congrArg List.length hm; simpa using this
 have hrep:∀ (j:Nat) (d:Bool),(Array.replicate ops.size false).getD j d=true->¬ j < ops.size:=fun j d h hj=>by
  simp [Array.getD_eq_getD_getElem?,hj] at h
 refine c2v (a0:=a) hm ha hok hpin hG e2 hVN e6 e5 e3 (K:=Q .normal) e4 (fun st' a' w' val' ow' hk hp hs'=>⟨hp,st',val',ow',hk,hs'⟩) ops.size _ (by simp) ?_ (fun j hj=> ?_) (fun t ht=>⟨fun j hj=> ?_,fun _=>by rw [e1]; exact agr.refl _ _⟩) (fun _ _=>rfl) hs2
 ·rw [List.filter_eq_self.2 (fun i hi=>by
   have hi':=List.mem_range.1 hi
   simp [Array.getD_eq_getD_getElem?,hi'])]
  simp
 ·exfalso
  have h1:=hrep j false hj
  simp [Array.getD_eq_getD_getElem?,h1] at hj
 ·exfalso
  have h1:=hrep j false hj
  simp [Array.getD_eq_getD_getElem?,h1] at hj
inductive EC where
 | skip
 | reg (ops:List (Option Nat×Op×Option (Nat×Bool)))
 | draw (ops:List (Option Nat×Op×Option (Nat×Bool))) (aft:List (List Nat))
 | seq (a b:EC)
 | cond (c:Operand) (a b:EC)
 | block (id:Nat) (a:EC)
 | loop (a:EC)
 | scope (a:EC)
 | exit (id:Nat)
 | label (l:Nat)
 | ret
 | other
def a72:Code->EC
 | .skip=> .skip
 | .region _ ops false=> .reg (ops.toList.map o3)
 | .region _ ops true=> .draw (ops.toList.map o3) (ops.toList.map b52)
 | .seq a b=> .seq (a72 a) (a72 b)
 | .cond c a b=> .cond c (a72 a) (a72 b)
 | .block id a=> .block id (a72 a)
 | .loop a=> .loop (a72 a)
 | .scope a=> .scope (a72 a)
 | .exit id=> .exit id
 | .label l=> .label l
 | .ret=> .ret
 | _=> .other
inductive IC where
 | skip
 | reg (ios:List AO)
 | draw (ios:List AO) (aft:List (List Nat))
 | seq (a b:IC)
 | cond (c:X) (a b:IC)
 | block (id:Nat) (a:IC)
 | loop (a:IC)
 | scope (a:IC)
 | exit (id:Nat)
 | label (l:Nat)
 | ret
def IC.ec:IC->EC
 | .skip=> .skip
 | .reg ios=> .reg (ios.map AO.e3)
 | .draw ios aft=> .draw (ios.map AO.e3) aft
 | .seq a b=> .seq a.ec b.ec
 | .cond c a b=> .cond c.op a.ec b.ec
 | .block id a=> .block id a.ec
 | .loop a=> .loop a.ec
 | .scope a=> .scope a.ec
 | .exit id=> .exit id
 | .label l=> .label l
 | .ret=> .ret
def IC.ok (P:Program) (N:Nat):IC->Bool
 | .reg ios=>c1s P N ios
 | .draw ios _=>c1s P N ios
 | .seq a b=>a.ok P N&&b.ok P N
 | .cond _ a b=>a.ok P N&&b.ok P N
 | .block _ a=>a.ok P N
 | .loop a=>a.ok P N
 | .scope a=>a.ok P N
 | _=>true
def e47 (pins:List Nat) (ios:List AO):Bool:=ios.all fun io=>match io.dst with
 | some d=> !pins.contains d
 | none=>true
def IC.pin (pins:List Nat):IC->Bool
 | .reg ios=>e47 pins ios
 | .draw ios _=>e47 pins ios
 | .seq a b=>a.pin pins&&b.pin pins
 | .cond _ a b=>a.pin pins&&b.pin pins
 | .block _ a=>a.pin pins
 | .loop a=>a.pin pins
 | .scope a=>a.pin pins
 | _=>true
theorem b3w {pins:List Nat} {ios:List AO} (h:e47 pins ios=true):∀ io∈ios,∀ t∈pins,io.dst≠some t:=fun io hi t ht he=>by
 have:=List.all_eq_true.1 h io hi
 rw [he] at this
 simp only [Bool.not_eq_true',List.contains_iff_mem] at this
 simp [ht] at this
theorem IC.pin_nil:∀ ic:IC,ic.pin []=true
 | .reg ios | .draw ios _=>by
  simp only [IC.pin,e47,List.all_eq_true]
  intro io _
  cases io.dst<;>simp
 | .seq a b | .cond _ a b=>by simp [IC.pin,pin_nil a,pin_nil b]
 | .block _ a | .loop a | .scope a=>by simp [IC.pin,pin_nil a]
 | .skip | .exit _ | .label _ | .ret=>rfl
def a7i (Q:Exit->St->Prop):Exit->St->Prop
 | .goto _,_=>False
 | e,st=>Q e st
theorem AWp.scope {pins:List Nat} {P:Program} {G:GG} {N:Nat} {st:St} {c:Code} {Q:Exit->St->Prop} (h:AWp P G N pins c (a7i Q) st):AWp P G N pins (.scope c) Q st:=fun E a w val ow hG hs=>
 wp_scope_straight (wp_mono (h E a w val ow hG hs) fun e a' w' ⟨hp,st',val',ow',hq,hs'⟩=>by
  cases e<;>first | exact hq.elim | exact ⟨hp,st',val',ow',hq,hs'⟩)
def AW (P:Program) (G:GG) (N:Nat):IC->(Exit->St->Prop)->St->Prop
 | .skip,Q,st=>Q .normal st
 | .reg ios,Q,st=>a77 P G N ios (Q .normal) st
 | .draw ios aft,Q,st=>d4o P G N ios aft (Q .normal) st
 | .seq a b,Q,st=>AW P G N a (b0i (AW P G N b Q) Q) st
 | .cond c a b,Q,st=>match c2p st N c with
  | some true=>AW P G N a Q st
  | some false=>AW P G N b Q st
  | none=>False
 | .block id a,Q,st=>AW P G N a (a84 id Q) st
 | .loop a,Q,st=>∃ (ι:Type) (I:ι->St->Prop) (μ:ι->Nat) (i0:ι),I i0 st/\∀ i st,I i st->AW P G N a (b0i (fun st'=>∃ i',I i' st'/\μ i' < μ i) Q) st
 | .scope a,Q,st=>AW P G N a (a7i Q) st
 | .exit id,Q,st=>Q (.exit id) st
 | .label _,Q,st=>Q .normal st
 | .ret,Q,st=>Q .ret st
theorem b9u {pins:List Nat} {P:Program} {G:GG} {N:Nat} (hord:P.follows .mixedOrders=true):∀ (ic:IC) (c:Code) (Q:Exit->St->Prop) (st:St),a72 c=ic.ec->ic.ok P N=true->ic.pin pins=true->AW P G N ic Q st->AWp P G N pins c Q st:=by
 intro ic
 induction ic with
 | skip=>
  intro c Q st he hok hpn h
  cases c<;>simp only [a72,IC.ec,reduceCtorEq] at he
  ·exact AWp.skip h
  ·rename_i id ops d; cases d<;>simp [a72] at he
 | reg ios=>
  intro c Q st he hok hpn h
  cases c<;>simp only [a72,IC.ec,reduceCtorEq] at he
  rename_i id ops d
  cases d<;>simp only [a72,EC.reg.injEq,reduceCtorEq] at he
  exact AWp.region (l:=ops.toList) he hok (b3w hpn) h
 | draw ios aft=>
  intro c Q st he hok hpn h
  cases c<;>simp only [a72,IC.ec,reduceCtorEq] at he
  rename_i id ops d
  cases d<;>simp only [a72,EC.draw.injEq,reduceCtorEq] at he
  exact AWp.draw hord he.1 he.2 hok (b3w hpn) h
 | seq a b iha ihb=>
  intro c Q st he hok hpn h
  cases c<;>simp only [a72,IC.ec,reduceCtorEq] at he
  ·rename_i id ops d; cases d<;>simp [a72] at he
  ·rename_i x y
   simp only [EC.seq.injEq] at he
   simp only [IC.ok,IC.pin,Bool.and_eq_true] at hok hpn
   exact AWp.seq ((iha x _ st he.1 hok.1 hpn.1 h).mono fun e st' hq=>by
    cases e<;>first | exact ihb y _ st' he.2 hok.2 hpn.2 hq | exact hq)
 | cond cx a b iha ihb=>
  intro c Q st he hok hpn h
  cases c<;>simp only [a72,IC.ec,reduceCtorEq] at he
  ·rename_i id ops d; cases d<;>simp [a72] at he
  ·rename_i c' x y
   simp only [EC.cond.injEq] at he
   obtain ⟨rfl,h1,h2⟩:=he
   simp only [IC.ok,IC.pin,Bool.and_eq_true] at hok hpn
   simp only [AW] at h
   split at h
   ·rename_i hc; exact AWp.cond hc (iha x _ st h1 hok.1 hpn.1 h)
   ·rename_i hc; exact AWp.cond hc (ihb y _ st h2 hok.2 hpn.2 h)
   ·exact h.elim
 | block id a iha=>
  intro c Q st he hok hpn h
  cases c<;>simp only [a72,IC.ec,reduceCtorEq] at he
  ·rename_i id ops d; cases d<;>simp [a72] at he
  ·rename_i id' x
   simp only [EC.block.injEq] at he
   obtain ⟨rfl,h1⟩:=he
   exact AWp.block (iha x _ st h1 hok hpn h)
 | loop a iha=>
  intro c Q st he hok hpn h
  cases c<;>simp only [a72,IC.ec,reduceCtorEq] at he
  ·rename_i id ops d; cases d<;>simp [a72] at he
  ·rename_i x
   simp only [EC.loop.injEq] at he
   obtain ⟨ι,I,μ,i0,h0,hround⟩:=h
   exact AWp.loop I μ i0 h0 fun i st' hI=>iha x _ st' he hok hpn (hround i st' hI)
 | scope a iha=>
  intro c Q st he hok hpn h
  cases c<;>simp only [a72,IC.ec,reduceCtorEq] at he
  ·rename_i id ops d; cases d<;>simp [a72] at he
  ·rename_i x
   simp only [EC.scope.injEq] at he
   exact AWp.scope (iha x _ st he hok hpn h)
 | exit id=>
  intro c Q st he hok hpn h
  cases c<;>simp only [a72,IC.ec,reduceCtorEq] at he
  ·rename_i id ops d; cases d<;>simp [a72] at he
  ·simp only [EC.exit.injEq] at he; subst he; exact AWp.exit h
 | label l=>
  intro c Q st he hok hpn h
  cases c<;>simp only [a72,IC.ec,reduceCtorEq] at he
  ·rename_i id ops d; cases d<;>simp [a72] at he
  ·exact AWp.label h
 | ret=>
  intro c Q st he hok hpn h
  cases c<;>simp only [a72,IC.ec,reduceCtorEq] at he
  ·rename_i id ops d; cases d<;>simp [a72] at he
  ·exact AWp.ret h
def rdv (st:St):X->AV
 | .t n=>st.s n
 | .c v=> .lit v
 | .nl sz=> .own sz 0 []
 | .g n=> .lit (.pointer (some ⟨n,0,none⟩))
 | .f n=> .fn n [] []
def rde (st:St):X->Nat
 | .t n=>st.ep n
 | _=>0
theorem a0t (x:X) (st:St):(a11 x).run st=some ((rdv st x,rde st x),st):=by cases x<;>rfl
section
variable {st:St}
@[go_sem] theorem f7t (n:Nat):rdv st (.t n)=st.s n:=(rfl)
@[go_sem] theorem f7q (v:Value):rdv st (.c v)= .lit v:=(rfl)
@[go_sem] theorem f5x (n:Nat):rdv st (.nl n)= .own n 0 []:=(rfl)
@[go_sem] theorem f7s (n:Nat):rdv st (.g n)= .lit (.pointer (some ⟨n,0,none⟩)):=(rfl)
@[go_sem] theorem f7r (n:Nat):rdv st (.f n)= .fn n [] []:=(rfl)
end
def St.thru (st:St) (N d:Nat) (v:AV):St:=((st.put N v).put N .dead).put d v
def St.sc (st:St) (N a b:Nat):St:=⟨fun u=>if u=N then .dead else if u=N+1 then .dead else st.s u,fun u=>if u=N then st.ep u+a else if u=N+1 then st.ep u+b else st.ep u⟩
section
variable {st:St} {N d u t:Nat} {v:AV}
@[go_sem] theorem f50:(st.put t v).s u=if u=t then v else st.s u:=(rfl)
@[go_sem] theorem f1i:(st.put t v).ep u=if u=t then (if nm v then st.ep t+1 else st.ep u) else st.ep u:=by
 simp only [St.put_ep]; by_cases h:u=t<;>simp [h]
@[go_sem] theorem f54:(st.set t v).s u=if u=t then v else st.s u:=(rfl)
@[go_sem] theorem f1m:(st.set t v).ep u=st.ep u:=(rfl)
@[go_sem] theorem f1n:(st.thru N d v).s u=if u=d then v else if u=N then .dead else st.s u:=by
 simp only [St.thru,St.put_s]; by_cases h:u=d<;>by_cases h2:u=N<;>simp [h,h2]
@[go_sem] theorem e6b:(st.thru N d v).ep u=if u=d then (if nm v then (if d=N then st.ep N+1 else st.ep d)+1 else st.ep u) else if u=N then (if nm v then st.ep N+1 else st.ep N) else st.ep u:=by
 have hd:nm AV.dead=false:=rfl
 simp only [St.thru,St.put_ep,hd]
 by_cases h1:u=d
 ·subst h1
  by_cases h2:nm v<;>by_cases h3:u=N<;>simp [h2,h3]
 ·by_cases h2:nm v<;>by_cases h3:u=N<;>simp [h1,h2,h3]
@[go_sem] theorem f7u {a b:Nat}:(st.sc N a b).s u=if u=N then .dead else if u=N+1 then .dead else st.s u:=(rfl)
@[go_sem] theorem f53 {a b:Nat}:(st.sc N a b).ep u=if u=N then st.ep u+a else if u=N+1 then st.ep u+b else st.ep u:=(rfl)
@[go_sem] theorem e53:(st.clear N).s u=if u < N then st.s u else .dead:=(rfl)
@[go_sem] theorem e0y:(st.clear N).ep u=st.ep u:=(rfl)
@[go_sem] theorem f1d {q:List Nat} {o m:Nat}:(st.kill t q o m).s u=a04 (b0m t q o m) (st.s u):=(rfl)
@[go_sem] theorem e55 {q:List Nat} {o m:Nat}:(st.kill t q o m).ep u=st.ep u:=(rfl)
theorem St.ext' {a b:St} (h1:∀ u,a.s u=b.s u) (h2:∀ u,a.ep u=b.ep u):a=b:=by
 cases a; cases b; simp only [St.mk.injEq]; exact ⟨funext h1,funext h2⟩
end
@[go_sem] theorem e0r (sz n:Nat) (ks:List AV):a0p (.own sz n ks)=some ks:=(rfl)
@[go_sem] theorem e0u (ks:List AV):a0p (.var ks)=some ks:=(rfl)
@[go_sem] theorem e0q (v:Value):a0p (.lit v)=none:=(rfl)
@[go_sem] theorem d33:a0p .dead=none:=(rfl)
@[go_sem] theorem e50 (n:Nat) (ks:List AV):a0p (.sl n ks)=none:=(rfl)
@[go_sem] theorem e5y (n:Nat) (ks:List AV):a0p (.ip ks n)=none:=(rfl)
@[go_sem] theorem e0n (ks:List AV):a0p (.agg ks)=none:=(rfl)
@[go_sem] theorem e0t (ks:List AV):a0p (.tup ks)=none:=(rfl)
@[go_sem] theorem e0p (T:TypeId) (k:AV):a0p (.ifc T k)=none:=(rfl)
@[go_sem] theorem e5x (f:FuncId) (a b:List AV):a0p (.fn f a b)=none:=(rfl)
@[go_sem] theorem e0s (t:Nat) (q:List Nat) (o e:Nat):a0p (.ref t q o e)=none:=(rfl)
attribute [go_sem] d8u d8x e91 c97 d8t e92 e90 d8q d8w d8s e9z d8v d8r c98
@[go_sem] theorem e5z (ks:List Int) (vs:List AV):a0p (.mp ks vs)=none:=(rfl)
@[go_sem] theorem d35 (ks:List AV):a0p (.loan ks)=none:=(rfl)
@[go_sem] theorem e0o (t:Nat) (q:List Nat) (lo n e:Nat):a0p (.bor t q lo n e)=none:=(rfl)
attribute [go_sem] Option.isSome_some Option.isSome_none b1a b0m List.isPrefixOf a0l a1n a02 a3q.noRefL Bool.and_true Bool.true_and Bool.and_false Bool.false_and Bool.false_eq_true Bool.not_true Bool.not_false
section
variable {P:Program} {G:GG} {N:Nat} {K:St->Prop} {Q:Exit->St->Prop} {st:St} {d:Option Nat} {i:IOp} {rest:List AO}
def evS (G:GG) (N:Nat) (d:Option Nat) (i:IOp) (st:St):Option St:=((a03 G N d i).run st).map (·.2)
@[congr] theorem d6i {st':St} (h:st=st'):evS G N d i st=evS G N d i st':=by rw [h]
def oK (o:Option St) (K:St->Prop):Prop:=match o with
 | some st=>K st
 | none=>False
@[congr] theorem e40 {o o':Option St} (h:o=o'):oK o K=oK o' K:=by rw [h]
@[go_sem] theorem e98:oK (some st) K=K st:=(rfl)
@[go_sem] theorem e97:oK none K=False:=(rfl)
@[congr] theorem d08 {a a':List AO} {st':St} (h:a=a') (h2:st=st'):a77 P G N a K st=a77 P G N a' K st':=by rw [h,h2]
@[congr] theorem e1r {ic:IC} {st':St} (h2:st=st'):AW P G N ic Q st=AW P G N ic Q st':=by rw [h2]
@[congr] theorem d03 {e:Exit} {st':St} (h2:st=st'):b0i K Q e st=b0i K Q e st':=by rw [h2]
@[congr] theorem c7n {id:Nat} {e:Exit} {st':St} (h2:st=st'):a84 id Q e st=a84 id Q e st':=by rw [h2]
@[congr] theorem c6x {e:Exit} {st':St} (h2:st=st'):a7i Q e st=a7i Q e st':=by rw [h2]
@[congr] theorem d2e {rs:List ResultVar} {res:AV} {e:Exit} {st':St} (h2:st=st'):d2d P N rs res e st=d2d P N rs res e st':=by rw [h2]
@[go_sem] theorem e1v:a77 P G N [] K st=K st:=(rfl)
@[go_sem] theorem e6l:a77 P G N (⟨d,.op i,none⟩::rest) K st=oK (evS G N d i st) (a77 P G N rest K):=by
 simp only [a77,a8j,b23,evS]
 cases (a03 G N d i).run st<;>rfl
@[congr] theorem d9t {v v':AV} (h:v=v'):nqK v d K st=nqK v' d K st:=by rw [h]
@[go_sem] theorem d4q {T t yT:Nat}:a77 P G N (⟨d,.nilq T (.t t) yT,none⟩::rest) K st=nqK (st.s t) d (a77 P G N rest K) st:=(rfl)
theorem e94 {d n:Nat} {ks:List AV} (h:∀ b:Bool,(b=true->ks=[])->K (st.put d (.lit (.bool b)))):nqK (.sl n ks) (some d) K st:=h
def gOp (P:Program) (G:GG) (N:Nat) (v:AV) (want:Bool) (d:Option Nat) (act:IAct) (rest:List AO) (K:St->Prop) (st:St):Prop:=match v with
 | .lit (.bool b)=>if b=want then a77 P G N (⟨d,act,none⟩::rest) K st else a77 P G N rest K (a2j d st)
 | .lit _=>a77 P G N rest K (a2j d st)
 | _=>False
section
variable {act:IAct}
@[congr] theorem d7g {v v':AV} {w:Bool} (h:v=v'):gOp P G N v w d act rest K st=gOp P G N v' w d act rest K st:=by rw [h]
@[go_sem] theorem f4b:gOp P G N (.lit (.bool true)) true d act rest K st=a77 P G N (⟨d,act,none⟩::rest) K st:=(rfl)
@[go_sem] theorem f4a:gOp P G N (.lit (.bool true)) false d act rest K st=a77 P G N rest K (a2j d st):=(rfl)
@[go_sem] theorem f39:gOp P G N (.lit (.bool false)) true d act rest K st=a77 P G N rest K (a2j d st):=(rfl)
@[go_sem] theorem f38:gOp P G N (.lit (.bool false)) false d act rest K st=a77 P G N (⟨d,act,none⟩::rest) K st:=(rfl)
@[go_sem] theorem f60 {w:Bool}:gOp P G N (.lit undef) w d act rest K st=a77 P G N rest K (a2j d st):=(rfl)
@[go_sem] theorem f2h {j t:Nat} {want:Bool}:a77 P G N (⟨d,act,some (j,t,want)⟩::rest) K st=gOp P G N (st.s t) want d act rest K st:=by
 simp only [a77,a8j,gOp]
 cases st.s t<;>try rfl
 rename_i v
 cases v<;>simp [b3b,a77,a8j]
end
theorem b6o {act:IAct} {b w:Bool} (h1:b=w->a77 P G N (⟨d,act,none⟩::rest) K st) (h2:b= !w->a77 P G N rest K (a2j d st)):gOp P G N (.lit (.bool b)) w d act rest K st:=by
 cases b<;>cases w<;>first | exact h1 rfl | exact h2 rfl
@[go_sem] theorem d4b {t:Nat}:a2j (some t) st=st.put t (.lit undef):=(rfl)
@[go_sem] theorem d4a:a2j none st=st:=(rfl)
@[go_sem] theorem e6i:AW P G N .skip Q st=Q .normal st:=(rfl)
@[go_sem] theorem f2d {ios:List AO}:AW P G N (.reg ios) Q st=a77 P G N ios (Q .normal) st:=(rfl)
@[go_sem] theorem f2f {a b:IC}:AW P G N (.seq a b) Q st=AW P G N a (b0i (AW P G N b Q) Q) st:=(rfl)
@[go_sem] theorem e1p {id:Nat} {a:IC}:AW P G N (.block id a) Q st=AW P G N a (a84 id Q) st:=(rfl)
@[go_sem] theorem e1t {a:IC}:AW P G N (.scope a) Q st=AW P G N a (a7i Q) st:=(rfl)
@[go_sem] theorem e6h {id:Nat}:AW P G N (.exit id) Q st=Q (.exit id) st:=(rfl)
@[go_sem] theorem e1s {id:Nat}:AW P G N (.label id) Q st=Q .normal st:=(rfl)
@[go_sem] theorem f2e:AW P G N .ret Q st=Q .ret st:=(rfl)
def cAW (P:Program) (G:GG) (N:Nat) (v:AV) (x y:IC) (Q:Exit->St->Prop) (st:St):Prop:=match v with
 | .lit (.bool b)=>if b=true then AW P G N x Q st else AW P G N y Q st
 | _=>False
section
variable {x y:IC}
@[congr] theorem d5l {v v':AV} (h:v=v'):cAW P G N v x y Q st=cAW P G N v' x y Q st:=by rw [h]
@[go_sem] theorem f6h:cAW P G N (.lit (.bool true)) x y Q st=AW P G N x Q st:=(rfl)
@[go_sem] theorem f6g:cAW P G N (.lit (.bool false)) x y Q st=AW P G N y Q st:=(rfl)
@[go_sem] theorem e6g {t:Nat}:AW P G N (.cond (.t t) x y) Q st=cAW P G N (if t < N then st.s t else .dead) x y Q st:=by
 simp only [AW,c2p]
 by_cases h:t < N
 ·simp only [h,if_true]
  cases hs:st.s t<;>simp only [cAW]
  rename_i v
  cases v<;>simp only [cAW]
  rename_i b
  cases b<;>simp
 ·simp [h,cAW]
@[go_sem] theorem e1q {b:Bool}:AW P G N (.cond (.c (.bool b)) x y) Q st=cAW P G N (.lit (.bool b)) x y Q st:=by
 cases b<;>simp [AW,c2p,cAW]
end
@[go_sem] theorem f1t:b0i K Q .normal st=K st:=(rfl)
@[go_sem] theorem f1s {id:Nat}:b0i K Q (.exit id) st=Q (.exit id) st:=(rfl)
@[go_sem] theorem f1u:b0i K Q .ret st=Q .ret st:=(rfl)
@[go_sem] theorem e2d {id:Nat}:a84 id Q .normal st=Q .normal st:=(rfl)
@[go_sem] theorem e2e {id:Nat}:a84 id Q .ret st=Q .ret st:=(rfl)
@[go_sem] theorem e2c {id id':Nat}:a84 id Q (.exit id') st=if id'=id then Q .normal st else Q (.exit id') st:=(rfl)
@[go_sem] theorem d8z:a7i Q .normal st=Q .normal st:=(rfl)
@[go_sem] theorem d80:a7i Q .ret st=Q .ret st:=(rfl)
@[go_sem] theorem d8y {id:Nat}:a7i Q (.exit id) st=Q (.exit id) st:=(rfl)
@[go_sem] theorem f3t {rs:List ResultVar} {res:AV}:d2d P N rs res .normal st=(b2i P N st rs=some res):=(rfl)
@[go_sem] theorem f3u {rs:List ResultVar} {res:AV}:d2d P N rs res .ret st=(b2i P N st rs=some res):=(rfl)
end
def gO {α:Type} (p:Prop) [Decidable p] (o:Option α):Option α:=if p then o else none
theorem d7f {α:Type} {p:Prop} [Decidable p] {o:Option α} (h:p):gO p o=o:=by simp [gO,h]
@[congr] theorem e3m {α:Type} {p p':Prop} [Decidable p] [Decidable p'] {o:Option α} (h:p=p'):gO p o=gO p' o:=by subst h; simp only [gO]; split<;>rfl
@[go_sem] theorem e8g {α:Type} [Decidable True] {o:Option α}:gO True o=o:=by simp [gO]
def b1j (st:St) (d:Nat) (o:Option AV):Option St:=match o with
 | some v=>some (st.put d v)
 | none=>none
@[congr] theorem d3p {st:St} {d:Nat} {o o':Option AV} (h:o=o'):b1j st d o=b1j st d o':=by rw [h]
@[go_sem] theorem d93 {st:St} {d:Nat} {v:AV}:b1j st d (some v)=some (st.put d v):=(rfl)
section
variable {G:GG} {N d:Nat} {st:St}
def mvS (st:St) (d:Nat) (x:X) (v:AV):Option St:=match v with
 | .own _ n _=>match x with
  | .t t=>some (st.put d (.bor t [] 0 n (st.ep t)))
  | _=>some (st.put d (.sl 0 []))
 | .var _=>match x with
  | .t t=>some (st.put d (.ref t [] 0 (st.ep t)))
  | _=>none
 | .dead=>none
 | v=>if a0m v then some (st.put d v) else match x with
  | .t t=>some ((st.set t (frz v)).put d (frz v))
  | _=>none
@[congr] theorem d8o {x:X} {v v':AV} (h:v=v'):mvS st d x v=mvS st d x v':=by rw [h]
@[go_sem] theorem d6o (x:X):evS G N (some d) (.mv x) st=mvS st d x (rdv st x):=by
 simp only [evS,a03,mvE,Ev.run_bind,a0t,Option.bind]
 cases x<;>simp only [rdv,rde,mvS,Ev.run_bind,Ev.run,setD,a2p,Option.map,a0m,if_true]
 rename_i t
 cases h:st.s t<;>simp only [mvS,Ev.run,Ev.run_bind,setD,a2p,a9w,b04,Option.bind]<;>(try rfl)
 all_goals (generalize a0m _=b; cases b<;>rfl)
@[go_sem] theorem e9s {t n sz:Nat} {ks:List AV}:mvS st d (.t t) (.own sz n ks)=some (st.put d (.bor t [] 0 n (st.ep t))):=(rfl)
@[go_sem] theorem f5a {n sz:Nat} {ks:List AV} {k:Nat}:mvS st d (.nl k) (.own sz n ks)=some (st.put d (.sl 0 [])):=(rfl)
@[go_sem] theorem e9v {t:Nat} {ks:List AV}:mvS st d (.t t) (.var ks)=some (st.put d (.ref t [] 0 (st.ep t))):=(rfl)
@[go_sem] theorem e9r {x:X} {v:Value}:mvS st d x (.lit v)=some (st.put d (.lit v)):=(rfl)
@[go_sem] theorem f5b {x:X} {n:Nat} {ks:List AV}:mvS st d x (.sl n ks)=some (st.put d (.sl n ks)):=(rfl)
@[go_sem] theorem f49 {x:X} {n:Nat} {ks:List AV}:mvS st d x (.ip ks n)=some (st.put d (.ip ks n)):=(rfl)
@[go_sem] theorem f48 {x:X} {f:FuncId} {a b:List AV}:mvS st d x (.fn f a b)=some (st.put d (.fn f a b)):=(rfl)
@[go_sem] theorem e9t {x:X} {t:Nat} {q:List Nat} {o e:Nat}:mvS st d x (.ref t q o e)=some (st.put d (.ref t q o e)):=(rfl)
@[go_sem] theorem e9p {x:X} {t:Nat} {q:List Nat} {lo n e:Nat}:mvS st d x (.bor t q lo n e)=some (st.put d (.bor t q lo n e)):=(rfl)
def iO (b:Bool) (x y:Option St):Option St:=if b then x else y
@[congr] theorem e3s {b b':Bool} {x y:Option St} (h:b=b'):iO b x y=iO b' x y:=by rw [h]
@[go_sem] theorem f8g {x y:Option St}:iO true x y=x:=(rfl)
@[go_sem] theorem f8f {x y:Option St}:iO false x y=y:=(rfl)
@[go_sem] theorem e9o {t:Nat} {ks:List AV}:mvS st d (.t t) (.agg ks)=iO (a0l ks) (some (st.put d (.agg ks))) (some ((st.set t (.agg (a1n ks))).put d (.agg (a1n ks)))):=(rfl)
@[go_sem] theorem e9u {t:Nat} {ks:List AV}:mvS st d (.t t) (.tup ks)=iO (a0l ks) (some (st.put d (.tup ks))) (some ((st.set t (.tup (a1n ks))).put d (.tup (a1n ks)))):=(rfl)
@[go_sem] theorem e9q {t:Nat} {T:TypeId} {k:AV}:mvS st d (.t t) (.ifc T k)=iO (a0m k) (some (st.put d (.ifc T k))) (some ((st.set t (.ifc T (frz k))).put d (.ifc T (frz k)))):=(rfl)
def c7m (st:St) (N d t:Nat) (q:List Nat) (lo n:Nat) (k:Option AV):Option St:=match k with
 | some (.own sz n0 ks)=>gO (t < N/\lo+n<=n0) (iO (q.isEmpty&&lo==0) (some ((st.put t .dead).thru N d (.own sz n (ks.take (n*sz))))) (some ((st.set t (a0q (st.s t) q (frz (.own sz n0 ks)))).put d (.sl n (((a1n ks).drop (lo*sz)).take (n*sz))))))
 | _=>none
@[congr] theorem d09 {t:Nat} {q:List Nat} {lo n:Nat} {k k':Option AV} (h:k=k'):c7m st N d t q lo n k=c7m st N d t q lo n k':=by rw [h]
@[go_sem] theorem e1z {t:Nat} {q:List Nat} {lo n sz n0:Nat} {ks:List AV}:c7m st N d t q lo n (some (.own sz n0 ks))=gO (t < N/\lo+n<=n0) (iO (q.isEmpty&&lo==0) (some ((st.put t .dead).thru N d (.own sz n (ks.take (n*sz))))) (some ((st.set t (a0q (st.s t) q (frz (.own sz n0 ks)))).put d (.sl n (((a1n ks).drop (lo*sz)).take (n*sz)))))):=(rfl)
def a18 (st:St) (t:Nat) (q:List Nat) (e:Nat):Option AV:=if e=st.ep t then a0e (st.s t) q else none
def eN (b:Bool) (k:Option AV):Option AV:=if b then k else none
@[go_sem] theorem f8c (k:Option AV):eN true k=k:=(rfl)
@[go_sem] theorem e2f {t:Nat} {q:List Nat} {e:Nat}:a18 st t q e=eN (e==st.ep t) (a0e (st.s t) q):=by
 simp only [a18,eN]; by_cases h:e=st.ep t<;>simp [h]
@[congr] theorem e2q {b b':Bool} {k k':Option AV} (h:b=b') (h2:k=k'):eN b k=eN b' k':=by rw [h,h2]
@[go_sem] theorem d3e {v:AV}:a0e v []=some v:=(rfl)
def c32 (k:Option AV) (q:List Nat):Option AV:=match k with
 | some k=>a0e k q
 | none=>none
@[go_sem] theorem d3h {k:AV} {q:List Nat}:c32 (some k) q=a0e k q:=(rfl)
@[go_sem] theorem d3f {sz n i:Nat} {ks:List AV} {q:List Nat}:a0e (.own sz n ks) (i::q)=c32 ks[i]? q:=by
 simp only [a0e,a0p,c32]
 cases ks[i]? <;>rfl
@[go_sem] theorem d3g {i:Nat} {ks:List AV} {q:List Nat}:a0e (.var ks) (i::q)=c32 ks[i]? q:=by
 simp only [a0e,a0p,c32]
 cases ks[i]? <;>rfl
@[go_sem] theorem d0q {v k:AV}:a0q v [] k=k:=(rfl)
def e0z (k:Option AV) (q:List Nat) (k':AV):AV:=match k with
 | some k=>a0q k q k'
 | none=> .dead
@[go_sem] theorem e00 {k k':AV} {q:List Nat}:e0z (some k) q k'=a0q k q k':=(rfl)
theorem b5e {ks:List AV} {i:Nat} {v:AV} (h:ks[i]? =none):ks.set i v=ks:=by
 apply List.set_eq_of_length_le; simpa using h
@[go_sem] theorem d0r {sz n i:Nat} {ks:List AV} {q:List Nat} {k':AV}:a0q (.own sz n ks) (i::q) k'= .own sz n (ks.set i (e0z ks[i]? q k')):=by
 simp only [a0q,a0p,e0z]
 cases h:ks[i]? with
 | none=>simp [b5e h]
 | some k=>rfl
@[go_sem] theorem d0s {i:Nat} {ks:List AV} {q:List Nat} {k':AV}:a0q (.var ks) (i::q) k'= .var (ks.set i (e0z ks[i]? q k')):=by
 simp only [a0q,a0p,e0z]
 cases h:ks[i]? with
 | none=>simp [b5e h]
 | some k=>rfl
def e6r (st:St) (N d:Nat) (x:X) (v:AV):Option St:=if a0m v then some (st.put d v) else match x with
  | .t t=>some ((st.put t .dead).thru N d v)
  | _=>some (st.thru N d v)
def b4i (st:St) (N d:Nat) (x:X) (v:AV):Option St:=match v with
 | .dead=>none
 | .bor t q lo n e=>c7m st N d t q lo n (a18 st t q e)
 | v=>e6r st N d x v
@[congr] theorem d1b {x:X} {v v':AV} (h:v=v'):b4i st N d x v=b4i st N d x v':=by rw [h]
theorem a6c {v:AV}:(a3o N (some d) v).run st=some ((),st.thru N d v):=rfl
@[go_sem] theorem c9e (x:X):evS G N (some d) (.asg x) st=b4i st N d x (rdv st x):=by
 have key:∀ (v:AV) (e:Nat),((match v with
   | .dead=>Ev.fail
   | .bor t q lo n e=>do
    let r2<-a94 t
    a0j (e==r2.2&&decide (t < N))
    let k<-a3j (a0e r2.1 q)
    match k with
    | .own sz n0 ks=>do
     a0j (decide (lo+n<=n0))
     if q.isEmpty&&lo==0 then do
      a2p t .dead
      a3o N (some d) (.own sz n (ks.take (n*sz)))
     else do
      a9w t (a0q r2.1 q (frz k))
      setD (some d) (.sl n (((a1n ks).drop (lo*sz)).take (n*sz)))
    | _=> .fail
   | v=>a67 N (some d) x v:Ev Unit).run st).map (·.2)=b4i st N d x v:=by
  intro v e
  have tail:∀ v:AV,(∀ t q lo n e,v≠ .bor t q lo n e)->v≠ .dead->((a67 N (some d) x v).run st).map (·.2)=e6r st N d x v:=by
   intro v _ _
   cases x<;>simp only [a67,e6r]<;>(split<;>rfl)
  cases v<;>(try (exact tail _ (by simp) (by simp)))
  ·rfl
  ·rename_i t q lo n e'
   simp only [b4i,a18,Ev.run_bind,a1l,Option.bind]
   by_cases he:e'=st.ep t
   ·subst he
    by_cases ht:t < N
    ·simp only [beq_self_eq_true,ht,decide_true,Bool.and_self,a0j,if_true,Ev.run,a0y]
     cases hk:a0e (st.s t) q with
     | none=>rfl
     | some k=>
      simp only [Option.map]
      cases k<;>try rfl
      rename_i sz n0 ks
      simp only [c7m,gO,iO,ht,true_and,Ev.run_bind,a0f,Option.bind]
      by_cases hl:lo+n<=n0
      ·simp only [hl,decide_true,if_true]
       generalize (q.isEmpty&&lo==0)=b
       cases b<;>rfl
      ·simp only [hl,decide_false,Bool.false_eq_true,if_false]
       rfl
    ·simp only [ht,decide_false,Bool.and_false,a0j,Bool.false_eq_true,if_false,Ev.run,if_true]
     cases a0e (st.s t) q with
     | none=>rfl
     | some k=>cases k<;>simp [c7m,gO,ht]
   ·have:(e'==st.ep t)=false:=by simpa using he
    simp only [this,Bool.false_and,a0j,Bool.false_eq_true,if_false,Ev.run,he,c7m,Option.map]
 simp only [evS,a03,d1a,Ev.run_bind,a0t,Option.bind]
 exact key _ 0
@[go_sem] theorem e7z (x:X):evS G N (some d) (.mvf x) st=mvS st d x (rdv st x):=d6o (G:=G) (N:=N) x
@[go_sem] theorem e7y (x:X):evS G N (some d) (.mva x) st=b4i st N d x (rdv st x):=c9e (G:=G) x
@[go_sem] theorem e13 {x:X} {v:Value}:b4i st N d x (.lit v)=some (st.put d (.lit v)):=(rfl)
@[go_sem] theorem e6q {x:X} {n:Nat} {ks:List AV}:b4i st N d x (.sl n ks)=some (st.put d (.sl n ks)):=(rfl)
@[go_sem] theorem e6o {x:X} {n:Nat} {ks:List AV}:b4i st N d x (.ip ks n)=some (st.put d (.ip ks n)):=(rfl)
@[go_sem] theorem e6n {x:X} {f:FuncId} {a b:List AV}:b4i st N d x (.fn f a b)=some (st.put d (.fn f a b)):=(rfl)
@[go_sem] theorem e15 {x:X} {t:Nat} {q:List Nat} {o e:Nat}:b4i st N d x (.ref t q o e)=some (st.put d (.ref t q o e)):=(rfl)
@[go_sem] theorem e11 {x:X} {t:Nat} {q:List Nat} {lo n e:Nat}:b4i st N d x (.bor t q lo n e)=c7m st N d t q lo n (a18 st t q e):=(rfl)
@[go_sem] theorem e14 {t sz n:Nat} {ks:List AV}:b4i st N d (.t t) (.own sz n ks)=some ((st.put t .dead).thru N d (.own sz n ks)):=(rfl)
@[go_sem] theorem e6p {k sz n:Nat} {ks:List AV}:b4i st N d (.nl k) (.own sz n ks)=some (st.thru N d (.own sz n ks)):=(rfl)
@[go_sem] theorem e17 {t:Nat} {ks:List AV}:b4i st N d (.t t) (.var ks)=some ((st.put t .dead).thru N d (.var ks)):=(rfl)
@[go_sem] theorem e10 {t:Nat} {ks:List AV}:b4i st N d (.t t) (.agg ks)=iO (a0l ks) (some (st.put d (.agg ks))) (some ((st.put t .dead).thru N d (.agg ks))):=(rfl)
@[go_sem] theorem e16 {t:Nat} {ks:List AV}:b4i st N d (.t t) (.tup ks)=iO (a0l ks) (some (st.put d (.tup ks))) (some ((st.put t .dead).thru N d (.tup ks))):=(rfl)
@[go_sem] theorem e12 {t:Nat} {T:TypeId} {k:AV}:b4i st N d (.t t) (.ifc T k)=iO (a0m k) (some (st.put d (.ifc T k))) (some ((st.put t .dead).thru N d (.ifc T k))):=(rfl)
@[go_sem] theorem e7n {b:BinOp} {T kd:Nat} {x y:X} {yT:TypeId}:evS G N (some d) (.bin b T kd x y yT) st=b1j st d (a22 b kd (rdv st x) (rdv st y)):=by
 simp only [evS,a03,Ev.run_bind,a0t,Option.bind,a0y]
 cases a22 b kd (rdv st x) (rdv st y)<;>rfl
theorem a4x (x:X):(b5n x).run st=match rdv st x with | .lit v=>some (v,st) | _=>none:=by
 simp only [b5n,Ev.run_bind,a0t,Option.bind]
 cases rdv st x<;>rfl
def d26 (v:AV):Option Value:=match v with | .lit v=>some v | _=>none
@[go_sem] theorem e37 {v:Value}:d26 (.lit v)=some v:=(rfl)
theorem b7e (x:X):(b5n x).run st=(d26 (rdv st x)).map fun v=>(v,st):=by
 rw [a4x]; cases rdv st x<;>rfl
def unO (u:UnOp) (v:AV):Option AV:=match v with
 | .lit v=>(a6x (Op.unary u v)).map .lit
 | _=>none
@[congr] theorem e1m {u:UnOp} {v v':AV} (h:v=v'):unO u v=unO u v':=by rw [h]
@[go_sem] theorem f3z {u:UnOp} {T:TypeId} {x:X}:evS G N (some d) (.un u T x) st=b1j st d (unO u (rdv st x)):=by
 simp only [evS,a03,Ev.run_bind,a4x,Option.bind]
 cases rdv st x<;>try rfl
 rename_i v
 simp only [unO,a0y]
 cases a6x (Op.unary u v)<;>rfl
@[go_sem] theorem f2a {b:Bool}:unO .not (.lit (.bool b))=some (.lit (.bool !b)):=(rfl)
def c63 (c x y:AV):Option AV:=match c with
 | .lit c=>c0k c x y
 | _=>none
@[go_sem] theorem e3b {c x y:X}:evS G N (some d) (.pick c x y) st=b1j st d (c63 (rdv st c) (rdv st x) (rdv st y)):=by
 simp only [evS,a03,Ev.run_bind,a4x,Option.bind,a0t]
 cases rdv st c<;>try rfl
 simp only [a0t,c63,a0y]
 rename_i v
 cases c0k v (rdv st x) (rdv st y)<;>rfl
@[go_sem] theorem f0k {u:Value} {y:AV}:c63 (.lit (.bool true)) (.lit u) y=some (.lit u):=by cases y<;>rfl
@[go_sem] theorem f0j {u:Value} {x:AV}:c63 (.lit (.bool false)) x (.lit u)=some (.lit u):=by cases x<;>rfl
@[go_sem] theorem d6g {T:TypeId} {zs:List AV}:evS G N (some d) (.alloc T zs) st=some (st.thru N d (.var zs)):=(rfl)
def d21 (lo n:Nat) (k:Option AV):Option AV:=match k with
 | some (.own _ n0 _)=>gO (lo+n<=n0) (some (.lit (.int .i64 n)))
 | _=>none
@[congr] theorem d22 {lo n:Nat} {k k':Option AV} (h:k=k'):d21 lo n k=d21 lo n k':=by rw [h]
@[go_sem] theorem e32 {lo n sz n0:Nat} {ks:List AV}:d21 lo n (some (.own sz n0 ks))=gO (lo+n<=n0) (some (.lit (.int .i64 n))):=(rfl)
def c9w (st:St) (x:X) (v:AV):Option AV:=match v with
 | .sl n _=>some (.lit (.int .i64 n))
 | .own _ n _=>some (.lit (.int .i64 n))
 | .bor t q lo n e=>d21 lo n (a18 st t q e)
 | _=>none
@[congr] theorem d23 {x:X} {v v':AV} (h:v=v'):c9w st x v=c9w st x v':=by rw [h]
theorem b6a {t:Nat} {q:List Nat} {e:Nat} (h:e=st.ep t):a18 st t q e=a0e (st.s t) q:=by simp [a18,h]
theorem b59 {t:Nat} {q:List Nat} {e:Nat} (h:¬ e=st.ep t):a18 st t q e=none:=by simp [a18,h]
@[go_sem] theorem e7s {T:TypeId} {x:X}:evS G N (some d) (.len T false x) st=b1j st d (c9w st x (rdv st x)):=by
 simp only [evS,a03,Ev.run_bind,a0t,Option.bind]
 cases hv:rdv st x<;>simp only [a50,Ev.run_bind,a0t,hv,Option.bind,Ev.run]<;>try rfl
 rename_i t q lo n e
 simp only [c9w,a1l]
 by_cases he:e=st.ep t
 ·simp only [he,beq_self_eq_true,a0j,if_true,Ev.run,Ev.run_pure,c31,Ev.run_bind,a1l,Option.bind,a0y,b6a]
  cases hk:a0e (st.s t) q with
  | none=>rfl
  | some k=>
   cases k<;>try rfl
   rename_i sz n0 ks
   simp only [d21,gO,Option.map,Ev.run_bind,a0f,Option.bind]
   by_cases hl:lo+n<=n0
   ·simp only [hl,decide_true,if_true]; rfl
   ·simp only [hl,decide_false,Bool.false_eq_true,if_false]; rfl
 ·have:(e==st.ep t)=false:=by simpa using he
  simp only [this,a0j,Bool.false_eq_true,if_false,Ev.run,b59 he]
  rfl
@[go_sem] theorem e9b {x:X} {n:Nat} {ks:List AV}:c9w st x (.sl n ks)=some (.lit (.int .i64 n)):=(rfl)
@[go_sem] theorem e34 {x:X} {sz n:Nat} {ks:List AV}:c9w st x (.own sz n ks)=some (.lit (.int .i64 n)):=(rfl)
@[go_sem] theorem e33 {x:X} {t:Nat} {q:List Nat} {lo n e:Nat}:c9w st x (.bor t q lo n e)=d21 lo n (a18 st t q e):=(rfl)
def f55 (v:AV):Option AV:=match v with
 | .lit (.string s)=>some (.lit (.int .i64 s.size))
 | _=>none
@[go_sem] theorem f56 {s:ByteArray}:f55 (.lit (.string s))=some (.lit (.int .i64 s.size)):=(rfl)
@[go_sem] theorem d2k {T:TypeId} {x:X}:evS G N (some d) (.len T true x) st=b1j st d (f55 (rdv st x)):=by
 simp only [evS,a03,Ev.run_bind,a4x,Option.bind]
 cases rdv st x<;>try rfl
 rename_i v
 cases v<;>rfl
@[go_sem] theorem e0i {v:AV}:a3a v []=a0p v:=by cases v<;>rfl
def e0l (k:Option AV) (q:List Nat):Option (List AV):=match k with
 | some k=>a3a k q
 | none=>none
@[go_sem] theorem e0m {k:AV} {q:List Nat}:e0l (some k) q=a3a k q:=(rfl)
@[go_sem] theorem e0j {sz n i:Nat} {ks:List AV} {q:List Nat}:a3a (.own sz n ks) (i::q)=e0l ks[i]? q:=by
 simp only [a3a,a0p,e0l]; cases ks[i]? <;>rfl
@[go_sem] theorem e0k {i:Nat} {ks:List AV} {q:List Nat}:a3a (.var ks) (i::q)=e0l ks[i]? q:=by
 simp only [a3a,a0p,e0l]; cases ks[i]? <;>rfl
@[go_sem] theorem d38 {sz n:Nat} {ks ks':List AV}:setRow (.own sz n ks) [] ks'= .own sz n ks':=(rfl)
@[go_sem] theorem d39 {ks ks':List AV}:setRow (.var ks) [] ks'= .var ks':=(rfl)
def c4k (k:Option AV) (q:List Nat) (ks':List AV):AV:=match k with
 | some k=>setRow k q ks'
 | none=> .dead
@[go_sem] theorem d37 {k:AV} {q:List Nat} {ks':List AV}:c4k (some k) q ks'=setRow k q ks':=(rfl)
@[go_sem] theorem d0t {sz n i:Nat} {ks:List AV} {q:List Nat} {ks':List AV}:setRow (.own sz n ks) (i::q) ks'= .own sz n (ks.set i (c4k ks[i]? q ks')):=by
 simp only [setRow,a0p,c4k]
 cases h:ks[i]? with
 | none=>simp [b5e h]
 | some k=>rfl
@[go_sem] theorem d0u {i:Nat} {ks:List AV} {q:List Nat} {ks':List AV}:setRow (.var ks) (i::q) ks'= .var (ks.set i (c4k ks[i]? q ks')):=by
 simp only [setRow,a0p,c4k]
 cases h:ks[i]? with
 | none=>simp [b5e h]
 | some k=>rfl
def eR (b:Bool) (k:Option (List AV)):Option (List AV):=if b then k else none
@[congr] theorem e2r {b b':Bool} {k k':Option (List AV)} (h:b=b') (h2:k=k'):eR b k=eR b' k':=by rw [h,h2]
@[go_sem] theorem f8d (k:Option (List AV)):eR true k=k:=(rfl)
def ptO (t:Nat) (q:List Nat) (o:Nat) (r:Option (List AV)):Option (Nat×List Nat×Nat×List AV):=match r with
 | some ks=>gO (o < ks.length) (some (t,q,o,ks))
 | none=>none
@[go_sem] theorem e5d {t:Nat} {q:List Nat} {o:Nat} {ks:List AV}:ptO t q o (some ks)=gO (o < ks.length) (some (t,q,o,ks)):=(rfl)
def a5y (st:St) (x:X) (v:AV):Option (Nat×List Nat×Nat×List AV):=match v with
 | .var ks=>match x with
  | .t t=>ptO t [] 0 (some ks)
  | _=>none
 | .ref t q o e=>ptO t q o (eR (e==st.ep t) (a3a (st.s t) q))
 | _=>none
@[congr] theorem d3z {x:X} {v v':AV} (h:v=v'):a5y st x v=a5y st x v':=by rw [h]
@[go_sem] theorem e5v {t:Nat} {ks:List AV}:a5y st (.t t) (.var ks)=gO (0 < ks.length) (some (t,[],0,ks)):=(rfl)
@[go_sem] theorem e5u {x:X} {t:Nat} {q:List Nat} {o e:Nat}:a5y st x (.ref t q o e)=ptO t q o (eR (e==st.ep t) (a3a (st.s t) q)):=(rfl)
theorem a6p (x:X):(c1v x).run st=(a5y st x (rdv st x)).map fun r=>((r.1,r.2.1,r.2.2.1,st.s r.1,st.ep r.1,r.2.2.2),st):=by
 simp only [c1v,b79,Ev.run_bind,a0t,Option.bind]
 cases x with
 | t n=>
  simp only [rdv]
  cases hv:st.s n<;>simp only [b04,Ev.run,Ev.run_bind,Ev.run_pure,Option.bind,a1l,a5y,a0y,Option.map]<;>try rfl
  ·rename_i ks
   have h2:a3a (AV.var ks) []=some ks:=rfl
   simp only [hv,h2,ptO,gO,a0f]
   by_cases hl:0 < ks.length
   ·simp only [hl,decide_true,if_true,hv]
   ·simp only [hl,decide_false,Bool.false_eq_true,if_false]
  ·rename_i t q o e
   by_cases he:e=st.ep t
   ·simp only [he,beq_self_eq_true,a0j,if_true,Ev.run,Ev.run_pure,eR]
    cases hk:a3a (st.s t) q with
    | none=>rfl
    | some ks=>
     simp only [ptO,gO]
     by_cases hl:o < ks.length
     ·simp only [hl,decide_true,if_true,Ev.run]
     ·simp only [hl,decide_false,Bool.false_eq_true,if_false,Ev.run]
   ·have:(e==st.ep t)=false:=by simpa using he
    simp only [this,a0j,Bool.false_eq_true,if_false,Ev.run,eR,ptO]
 | c v=>rfl
 | nl n=>rfl
 | g n=>rfl
 | f n=>rfl
def ldK (st:St) (t:Nat) (q:List Nat) (o:Nat) (k:Option AV):Option AV:=match k with
 | some (.own _ n _)=>some (.bor t (q++[o]) 0 n (st.ep t))
 | some (.mp _ _)=>some (.bor t (q++[o]) 0 0 (st.ep t))
 | some k=>if a0m k then some k else none
 | none=>none
@[congr] theorem d71 {t:Nat} {q:List Nat} {o:Nat} {k k':Option AV} (h:k=k'):ldK st t q o k=ldK st t q o k':=by rw [h]
section
variable {t:Nat} {q:List Nat} {o:Nat}
@[go_sem] theorem e9a {sz n:Nat} {ks:List AV}:ldK st t q o (some (.own sz n ks))=some (.bor t (q++[o]) 0 n (st.ep t)):=(rfl)
@[go_sem] theorem f4v {a:List Int} {b:List AV}:ldK st t q o (some (.mp a b))=some (.bor t (q++[o]) 0 0 (st.ep t)):=(rfl)
@[go_sem] theorem e89 {v:Value}:ldK st t q o (some (.lit v))=some (.lit v):=(rfl)
@[go_sem] theorem f4w {n:Nat} {ks:List AV}:ldK st t q o (some (.sl n ks))=some (.sl n ks):=(rfl)
@[go_sem] theorem f4u {n:Nat} {ks:List AV}:ldK st t q o (some (.ip ks n))=some (.ip ks n):=(rfl)
@[go_sem] theorem f4t {f:FuncId} {a b:List AV}:ldK st t q o (some (.fn f a b))=some (.fn f a b):=(rfl)
@[go_sem] theorem d72 {T:TypeId} {n:Nat} {ks:List AV}:ldK st t q o (some (.ifc T (.ip ks n)))=some (.ifc T (.ip ks n)):=(rfl)
end
def ldS (st:St) (d:Nat) (r:Option (Nat×List Nat×Nat×List AV)):Option St:=match r with
 | some (t,q,o,ks)=>b1j st d (ldK st t q o ks[o]?)
 | none=>none
@[congr] theorem d73 {r r':Option (Nat×List Nat×Nat×List AV)} (h:r=r'):ldS st d r=ldS st d r':=by rw [h]
@[go_sem] theorem e3z {t:Nat} {q:List Nat} {o:Nat} {ks:List AV}:ldS st d (some (t,q,o,ks))=b1j st d (ldK st t q o ks[o]?):=(rfl)
def ipK (k:Option AV):Option AV:=match k with
 | some k=>if a0m k then some k else none
 | none=>none
@[go_sem] theorem e86 {v:Value}:ipK (some (.lit v))=some (.lit v):=(rfl)
@[go_sem] theorem f4q {n:Nat} {ks:List AV}:ipK (some (.sl n ks))=some (.sl n ks):=(rfl)
@[go_sem] theorem f4p {n:Nat} {ks:List AV}:ipK (some (.ip ks n))=some (.ip ks n):=(rfl)
@[go_sem] theorem f4o {f:FuncId} {a b:List AV}:ipK (some (.fn f a b))=some (.fn f a b):=(rfl)
@[go_sem] theorem d7p {T:TypeId} {n:Nat} {ks:List AV}:ipK (some (.ifc T (.ip ks n)))=some (.ifc T (.ip ks n)):=(rfl)
def b4x (G:GG) (st:St) (d:Nat) (x:X) (v:AV):Option St:=match v with
 | .lit (.pointer (some ⟨g,0,none⟩))=>b1j st d ((G g).map .lit)
 | .ip ks off=>b1j st d (ipK ks[off]?)
 | v=>ldS st d (a5y st x v)
@[congr] theorem c90 {x:X} {v v':AV} (h:v=v'):b4x G st d x v=b4x G st d x v':=by rw [h]
theorem c4f (x:X):((b6s (some d) none x).run st).map (·.2)=ldS st d (a5y st x (rdv st x)):=by
 simp only [b6s,Ev.run_bind,a6p,Option.bind,ldS]
 cases a5y st x (rdv st x) with
 | none=>rfl
 | some r=>
  obtain ⟨t,q,o,ks⟩:=r
  simp only [Option.map,a0y]
  cases ks[o]? with
  | none=>rfl
  | some k=>
   simp only
   cases k<;>simp only [a9b,ldK,Ev.run_bind,a0f,Option.bind]<;>first | rfl | (generalize a0m _=b; cases b<;>rfl)
@[go_sem] theorem e28 {T:TypeId} {x:X}:evS G N (some d) (.load T none x) st=b4x G st d x (rdv st x):=by
 simp only [evS,a03,Ev.run_bind,a0t,Option.bind]
 have h:=c4f (d:=d) (st:=st) x
 cases hv:rdv st x<;>rw [hv] at h<;>try exact h
 ·rename_i v
  unfold b4x
  split<;>split<;>simp_all
  generalize G _=r
  cases r<;>rfl
 ·rename_i ks off
  simp only [b4x,Ev.run_bind,a0y,Option.bind,Option.map]
  cases ks[off]? with
  | none=>rfl
  | some k=>
   simp only [Ev.run_bind,a0f,Option.bind,ipK]
   generalize a0m k=b
   cases b<;>rfl
@[go_sem] theorem e9i {x:X} {g:Nat}:b4x G st d x (.lit (.pointer (some ⟨g,0,none⟩)))=b1j st d ((G g).map .lit):=(rfl)
@[go_sem] theorem e4d {x:X} {ks:List AV} {off:Nat}:b4x G st d x (.ip ks off)=b1j st d (ipK ks[off]?):=(rfl)
@[go_sem] theorem d8b {x:X} {ks:List AV}:b4x G st d x (.var ks)=ldS st d (a5y st x (.var ks)):=(rfl)
@[go_sem] theorem d8a {x:X} {t:Nat} {q:List Nat} {o e:Nat}:b4x G st d x (.ref t q o e)=ldS st d (a5y st x (.ref t q o e)):=(rfl)
def lmS (st:St) (d s:Nat) (r:Option (Nat×List Nat×Nat×List AV)):Option St:=match r with
 | some (t,q,o,ks)=>gO (o+s<=ks.length) (iO (a0l ((ks.drop o).take s)) (some (st.put d (.agg ((ks.drop o).take s)))) (some ((st.set t (setRow (st.s t) q (a0h ks o (a1n ((ks.drop o).take s))))).put d (.agg (a1n ((ks.drop o).take s))))))
 | none=>none
@[congr] theorem d76 {s:Nat} {r r':Option (Nat×List Nat×Nat×List AV)} (h:r=r'):lmS st d s r=lmS st d s r':=by rw [h]
@[go_sem] theorem e38 {s t:Nat} {q:List Nat} {o:Nat} {ks:List AV}:lmS st d s (some (t,q,o,ks))=gO (o+s<=ks.length) (iO (a0l ((ks.drop o).take s)) (some (st.put d (.agg ((ks.drop o).take s)))) (some ((st.set t (setRow (st.s t) q (a0h ks o (a1n ((ks.drop o).take s))))).put d (.agg (a1n ((ks.drop o).take s)))))):=(rfl)
def lmX (st:St) (d s:Nat) (x:X) (v:AV):Option St:=match v with
 | .ip ks off=>gO (off+s<=ks.length/\a0l ((ks.drop off).take s)=true) (some (st.put d (.agg ((ks.drop off).take s))))
 | v=>lmS st d s (a5y st x v)
@[congr] theorem d77 {s:Nat} {x:X} {v v':AV} (h:v=v'):lmX st d s x v=lmX st d s x v':=by rw [h]
@[go_sem] theorem f40 {s:Nat} {x:X} {ks:List AV} {off:Nat}:lmX st d s x (.ip ks off)=gO (off+s<=ks.length/\a0l ((ks.drop off).take s)=true) (some (st.put d (.agg ((ks.drop off).take s)))):=(rfl)
@[go_sem] theorem e9h {s:Nat} {x:X} {ks:List AV}:lmX st d s x (.var ks)=lmS st d s (a5y st x (.var ks)):=(rfl)
@[go_sem] theorem e9g {s:Nat} {x:X} {t:Nat} {q:List Nat} {o e:Nat}:lmX st d s x (.ref t q o e)=lmS st d s (a5y st x (.ref t q o e)):=(rfl)
theorem c1x (x:X) (s:Nat):((b6s (some d) (some s) x).run st).map (·.2)=lmS st d s (a5y st x (rdv st x)):=by
 simp only [b6s,Ev.run_bind,a6p,Option.bind,lmS]
 cases a5y st x (rdv st x) with
 | none=>rfl
 | some r=>
  obtain ⟨t,q,o,ks⟩:=r
  simp only [Option.map,Ev.run_bind,a0f,Option.bind,gO]
  by_cases hl:o+s<=ks.length
  ·simp only [hl,decide_true,if_true,iO]
   generalize a0l _=b
   cases b<;>rfl
  ·simp only [hl,decide_false,Bool.false_eq_true,if_false]
@[go_sem] theorem d6m {T:TypeId} {x:X} {s:Nat}:evS G N (some d) (.load T (some s) x) st=lmX st d s x (rdv st x):=by
 simp only [evS,a03,Ev.run_bind,a0t,Option.bind]
 have h:=c1x (d:=d) (st:=st) x s
 cases hv:rdv st x<;>rw [hv] at h<;>try exact h
 ·split<;>simp_all<;>rfl
 rename_i ks off
 simp only [lmX,Ev.run_bind,a0f,Option.bind,Option.map,gO]
 by_cases hl:off+s<=ks.length
 ·simp only [hl,decide_true,Bool.true_and,true_and]
  generalize a0l _=b
  cases b<;>rfl
 ·simp only [hl,decide_false,Bool.false_and,Bool.false_eq_true,if_false,false_and]
def c5a (st:St) (d:Nat) (x:X) (v:AV):Option St:=match v with
 | .ip ks o=>some (st.put d (.ip ks o))
 | .fn f a b=>some (st.put d (.fn f a b))
 | v=>match a5y st x v with
  | some (t,q,o,ks)=>some (st.put d (.ref t q o (st.ep t)))
  | none=>none
def c16 (st:St) (d off:Nat) (r:Option (Nat×List Nat×Nat×List AV)):Option St:=match r with
 | some (t,q,o,ks)=>some (st.put d (.ref t q (o+off) (st.ep t)))
 | none=>none
@[congr] theorem d3b {off:Nat} {r r':Option (Nat×List Nat×Nat×List AV)} (h:r=r'):c16 st d off r=c16 st d off r':=by rw [h]
@[go_sem] theorem d8p {off t:Nat} {q:List Nat} {o:Nat} {ks:List AV}:c16 st d off (some (t,q,o,ks))=some (st.put d (.ref t q (o+off) (st.ep t))):=(rfl)
@[congr] theorem d3c {x:X} {v v':AV} (h:v=v'):c5a st d x v=c5a st d x v':=by rw [h]
@[go_sem] theorem d6p {x:X}:evS G N (some d) (.nilck x) st=c5a st d x (rdv st x):=by
 simp only [evS,a03,Ev.run_bind,a0t,Option.bind]
 cases hv:rdv st x<;>simp only [c5a,Ev.run_bind,a6p,Option.bind,hv]<;>try rfl
 ·generalize a5y st x _=r; cases r<;>rfl
 ·generalize a5y st x _=r; cases r<;>rfl
@[go_sem] theorem e9x {x:X} {ks:List AV} {o:Nat}:c5a st d x (.ip ks o)=some (st.put d (.ip ks o)):=(rfl)
@[go_sem] theorem e9w {x:X} {f:FuncId} {a b:List AV}:c5a st d x (.fn f a b)=some (st.put d (.fn f a b)):=(rfl)
@[go_sem] theorem e4n {x:X} {ks:List AV}:c5a st d x (.var ks)=c16 st d 0 (a5y st x (.var ks)):=by
 simp only [c5a,c16]; cases a5y st x (.var ks)<;>rfl
@[go_sem] theorem e4m {x:X} {t:Nat} {q:List Nat} {o e:Nat}:c5a st d x (.ref t q o e)=c16 st d 0 (a5y st x (.ref t q o e)):=by
 simp only [c5a,c16]; cases a5y st x (.ref t q o e)<;>rfl
def c54 (st:St) (d off:Nat) (x:X) (v:AV):Option St:=match v with
 | .ip ks o=>some (st.put d (.ip ks (o+off)))
 | v=>c16 st d off (a5y st x v)
@[congr] theorem d2n {off:Nat} {x:X} {v v':AV} (h:v=v'):c54 st d off x v=c54 st d off x v':=by rw [h]
@[go_sem] theorem d6k {T:TypeId} {off f:Nat} {x:X}:evS G N (some d) (.faddr T off x f) st=c54 st d off x (rdv st x):=by
 simp only [evS,a03,Ev.run_bind,a0t,Option.bind]
 cases hv:rdv st x<;>simp only [c54,Ev.run_bind,a6p,Option.bind,hv,c16]<;>try rfl
 ·generalize a5y st x _=r; cases r<;>rfl
 ·generalize a5y st x _=r; cases r<;>rfl
@[go_sem] theorem d6f {T:TypeId} {off f:Nat} {x:X}:evS G N (some d) (.aaddr T off x f) st=c54 st d off x (rdv st x):=by
 simp only [evS,a03,Ev.run_bind,a0t,Option.bind]
 cases hv:rdv st x<;>simp only [c54,Ev.run_bind,a6p,Option.bind,hv,c16]<;>try rfl
 ·generalize a5y st x _=r; cases r<;>rfl
 ·generalize a5y st x _=r; cases r<;>rfl
@[go_sem] theorem e72 {off:Nat} {x:X} {ks:List AV} {o:Nat}:c54 st d off x (.ip ks o)=some (st.put d (.ip ks (o+off))):=(rfl)
@[go_sem] theorem e3e {off:Nat} {x:X} {ks:List AV}:c54 st d off x (.var ks)=c16 st d off (a5y st x (.var ks)):=(rfl)
@[go_sem] theorem e3d {off:Nat} {x:X} {t:Nat} {q:List Nat} {o e:Nat}:c54 st d off x (.ref t q o e)=c16 st d off (a5y st x (.ref t q o e)):=(rfl)
end
section
variable {G:GG} {N d:Nat} {st:St}
def c9r (st:St) (N t:Nat) (q:List Nat) (lo n:Nat) (k:Option AV):Option (St×List AV):=match k with
 | some (.own sz n0 ks)=>gO (lo+n<=n0/\t < N) (some (st.set t (a0q (st.s t) q (frz (.own sz n0 ks))),[.sl n (((a1n ks).drop (lo*sz)).take (n*sz))]))
 | _=>none
@[congr] theorem d2r {t:Nat} {q:List Nat} {lo n:Nat} {k k':Option AV} (h:k=k'):c9r st N t q lo n k=c9r st N t q lo n k':=by rw [h]
@[go_sem] theorem e3n {t:Nat} {q:List Nat} {lo n sz n0:Nat} {ks:List AV}:c9r st N t q lo n (some (.own sz n0 ks))=gO (lo+n<=n0/\t < N) (some (st.set t (a0q (st.s t) q (frz (.own sz n0 ks))),[.sl n (((a1n ks).drop (lo*sz)).take (n*sz))])):=(rfl)
def c45 (st:St) (x:X) (ks:List AV):Option (St×List AV):=match x with
 | .t t=>some (st.put t .dead,ks)
 | _=>none
@[go_sem] theorem f4d {t:Nat} {ks:List AV}:c45 st (.t t) ks=some (st.put t .dead,ks):=(rfl)
def e3o (st:St) (x:X) (ks:List AV):Option (St×List AV):=match x with
 | .t t=>some (st.put t .dead,ks)
 | _=>some (st,ks)
@[go_sem] theorem f4c {t:Nat} {ks:List AV}:e3o st (.t t) ks=some (st.put t .dead,ks):=(rfl)
@[go_sem] theorem e8h {t:Nat} {ks:List AV}:e3o st (.nl t) ks=some (st,ks):=(rfl)
def giv (st:St) (N:Nat) (x:X) (v:AV):Option (St×List AV):=match v with
 | .dead=>none
 | .tup _=>none
 | .ref _ _ _ _=>none
 | .bor t q lo n e=>c9r st N t q lo n (a18 st t q e)
 | .agg ks=>c45 st x ks
 | .own sz n ks=>e3o st x [.own sz n ks]
 | .var ks=>c45 st x [frz (.var ks)]
 | .ifc T k=>c45 st x [frz (.ifc T k)]
 | .mp a b=>c45 st x [.mp a b]
 | .fn f a b=>if a3q.noRefL a&&a3q.noRefL b then some (st,[.fn f a b]) else none
 | v=>if a3q.oneAV v then some (st,[v]) else none
@[congr] theorem d7h {x:X} {v v':AV} (h:v=v'):giv st N x v=giv st N x v':=by rw [h]
theorem a9o (x:X):(a3q x N).run st=(giv st N x (rdv st x)).map fun r=>((),r.1.put N (.agg r.2)):=by
 have hbor:∀ (t:Nat) (q:List Nat) (lo n e:Nat),(do
    let r2<-a94 t
    a0j (e==r2.2)
    let k<-a3j (a0e r2.1 q)
    match k with
    | .own sz n0 ks=>do
     a0j (decide (lo+n<=n0)&&decide (t < N))
     a9w t (a0q r2.1 q (frz k))
     a2p N (.agg [.sl n (((a1n ks).drop (lo*sz)).take (n*sz))])
    | _=> .fail:Ev Unit).run st=(c9r st N t q lo n (a18 st t q e)).map fun r=>((),r.1.put N (.agg r.2)):=by
  intro t q lo n e
  simp only [a18,Ev.run_bind,a1l,Option.bind]
  by_cases he:e=st.ep t
  ·subst he
   simp only [beq_self_eq_true,a0j,if_true,Ev.run,a0y]
   cases hk:a0e (st.s t) q with
   | none=>rfl
   | some k=>
    simp only [Option.map]
    cases k<;>try rfl
    rename_i sz n0 ks
    simp only [c9r,gO,Ev.run_bind,Option.bind]
    by_cases h1:lo+n<=n0
    ·by_cases h2:t < N
     ·simp only [h1,h2,decide_true,Bool.and_self,if_true,and_self]; rfl
     ·simp only [h1,h2,decide_true,decide_false,Bool.and_false,Bool.false_eq_true,if_false,and_false]; rfl
    ·simp only [h1,decide_false,Bool.false_and,Bool.false_eq_true,if_false,false_and]; rfl
  ·have:(e==st.ep t)=false:=by simpa using he
   simp only [this,a0j,Bool.false_eq_true,if_false,Ev.run,he]
   rfl
 simp only [a3q,Ev.run_bind,a0t,Option.bind]
 cases x with
 | t n=>
  simp only [rdv]
  cases hv:st.s n<;>simp only [giv]<;>first | exact hbor _ _ _ _ _ | rfl | (simp only [Ev.run_bind,a0f,Option.bind,Option.map]; generalize (a3q.noRefL _&&a3q.noRefL _)=b; cases b<;>rfl) | (simp only [Ev.run_bind,a0f,Option.bind,Option.map]; generalize a3q.oneAV _=b; cases b<;>rfl)
 | c v=>simp only [rdv,giv,Ev.run_bind,a0f,Option.bind,Option.map]; generalize a3q.oneAV _=b; cases b<;>rfl
 | nl n=>rfl
 | g n=>rfl
 | f n=>rfl
def one (b:Bool) (r:Option (St×List AV)):Option (St×List AV):=if b then r else none
@[congr] theorem d9u {b b':Bool} {r:Option (St×List AV)} (h:b=b'):one b r=one b' r:=by rw [h]
@[go_sem] theorem f7g {r:Option (St×List AV)}:one true r=r:=(rfl)
@[go_sem] theorem e8l {x:X} {v:Value}:giv st N x (.lit v)=one v.oneCell' (some (st,[.lit v])):=(rfl)
@[go_sem] theorem f4h {x:X} {n:Nat} {ks:List AV}:giv st N x (.sl n ks)=some (st,[.sl n ks]):=(rfl)
@[go_sem] theorem f4f {x:X} {n:Nat} {ks:List AV}:giv st N x (.ip ks n)=some (st,[.ip ks n]):=(rfl)
@[go_sem] theorem f4e {x:X} {f:FuncId} {a b:List AV}:giv st N x (.fn f a b)=one (a3q.noRefL a&&a3q.noRefL b) (some (st,[.fn f a b])):=(rfl)
@[go_sem] theorem e8j {x:X} {t:Nat} {q:List Nat} {lo n e:Nat}:giv st N x (.bor t q lo n e)=c9r st N t q lo n (a18 st t q e):=(rfl)
@[go_sem] theorem e8i {x:X} {ks:List AV}:giv st N x (.agg ks)=c45 st x ks:=(rfl)
@[go_sem] theorem e8m {x:X} {sz n:Nat} {ks:List AV}:giv st N x (.own sz n ks)=e3o st x [.own sz n ks]:=(rfl)
@[go_sem] theorem e8n {x:X} {ks:List AV}:giv st N x (.var ks)=c45 st x [.ip (a1n ks) 0]:=(rfl)
@[go_sem] theorem f4g {x:X} {a:List Int} {b:List AV}:giv st N x (.mp a b)=c45 st x [.mp a b]:=(rfl)
@[go_sem] theorem e8k {x:X} {T:TypeId} {k:AV}:giv st N x (.ifc T k)=c45 st x [.ifc T (frz k)]:=(rfl)
attribute [go_sem] Value.oneCell'
def e39 (G:GG) (st:St) (N d T s t:Nat) (v:AV):Option St:=match v with
 | .var ks=>gO (t < N/\ks.length=s/\0 < s) (some ((st.set t .dead).thru N d (.agg ks)))
 | _=>evS G N (some d) (.lmv T s (.t t)) st
@[congr] theorem d27 {T s t:Nat} {v v':AV} (h:v=v'):e39 G st N d T s t v=e39 G st N d T s t v':=by rw [h]
theorem d0n {T s t:Nat} {ks:List AV} (h:st.s t= .var ks):evS G N (some d) (.lmv T s (.t t)) st=gO (t < N/\ks.length=s/\0 < s) (some ((st.set t .dead).thru N d (.agg ks))):=by
 simp only [evS,a03,b79,Ev.run_bind,a0t,rdv,h,Option.bind,b04,Ev.run,Ev.run_pure,a1l,a0f,gO]
 by_cases h1:t < N
 ·by_cases h2:ks.length=s
  ·by_cases h3:0 < s
   ·simp only [h1,h2,h3,List.isEmpty_nil,BEq.rfl,decide_true,Bool.and_self,if_true,and_self,b1l,a6c,Option.map]
   ·simp [h1,h2,h3]
  ·simp [h1,h2]
 ·simp [h1]
@[go_sem] theorem e7t {T s t:Nat}:evS G N (some d) (.lmv T s (.t t)) st=e39 G st N d T s t (st.s t):=by
 cases h:st.s t<;>first | rfl | exact d0n h
@[go_sem] theorem e4a {T s t:Nat} {ks:List AV}:e39 G st N d T s t (.var ks)=gO (t < N/\ks.length=s/\0 < s) (some ((st.set t .dead).thru N d (.agg ks))):=(rfl)
theorem b0y {v:AV} (h:nm v=false):(st.put N v).put N .dead=st.put N .dead:=by
 refine St.ext' (fun u=> ?_) (fun u=> ?_)
 ·simp only [St.put_s]; split<;>rfl
 ·have hd:nm AV.dead=false:=rfl
  simp only [St.put_ep,h,hd,Bool.false_eq_true,and_false,if_false]
def c4r (st:St) (N s:Nat) (cs:List AV) (r:Option (Nat×List Nat×Nat×List AV)):Option St:=match r with
 | some (t,q,o,ks)=>gO (cs.length=s/\0 < s/\t < N/\o+s<=ks.length) (iO (a0l cs) (some (st.set t (setRow (st.s t) q (a0h ks o cs)))) (some ((st.kill t q o s).set t (setRow (st.s t) q (a0h ks o cs)))))
 | none=>none
@[congr] theorem d4f {s:Nat} {cs:List AV} {r r':Option (Nat×List Nat×Nat×List AV)} (h:r=r'):c4r st N s cs r=c4r st N s cs r':=by rw [h]
@[go_sem] theorem e1d {s t:Nat} {q:List Nat} {o:Nat} {cs ks:List AV}:c4r st N s cs (some (t,q,o,ks))=gO (cs.length=s/\0 < s/\t < N/\o+s<=ks.length) (iO (a0l cs) (some (st.set t (setRow (st.s t) q (a0h ks o cs)))) (some ((st.kill t q o s).set t (setRow (st.s t) q (a0h ks o cs))))):=(rfl)
def d4h (st:St) (N s:Nat) (x:X) (cs:List AV):Option St:=c4r st N s cs (a5y st x (rdv st x))
@[congr] theorem d4i {s:Nat} {x:X} {cs:List AV} {st':St} (h:st=st'):d4h st N s x cs=d4h st' N s x cs:=by rw [h]
@[go_sem] theorem f1p {s:Nat} {x:X} {cs:List AV}:d4h st N s x cs=c4r st N s cs (a5y st x (rdv st x)):=(rfl)
def e1e (N s:Nat) (x:X) (r:Option (St×List AV)):Option St:=match r with
 | some (st1,cs)=>d4h (st1.put N .dead) N s x cs
 | none=>none
@[congr] theorem d4g {s:Nat} {x:X} {r r':Option (St×List AV)} (h:r=r'):e1e N s x r=e1e N s x r':=by rw [h]
@[go_sem] theorem e1f {s:Nat} {x:X} {cs:List AV}:e1e N s x (some (st,cs))=d4h (st.put N .dead) N s x cs:=(rfl)
theorem c4s {s:Nat} {cs:List AV} {r:Option (Nat×List Nat×Nat×List AV)} (h:∀ p,r=some p->¬ p.1 < N):c4r st N s cs r=none:=by
 cases r with
 | none=>rfl
 | some p=>
  obtain ⟨t,q,o,ks⟩:=p
  have:=h _ rfl
  simp only [c4r,gO]
  rw [if_neg]
  rintro ⟨_,_,h1,_⟩
  exact this h1
def f1o (N s t:Nat) (q:List Nat) (o:Nat) (v:AV) (ks:List AV):Ev Unit:=do
  let cs<-b7p N
  a0j (decide (cs.length=s)&&decide (0 < s)&&decide (t < N)&&decide (o+s<=ks.length))
  a2p N .dead
  if a0l cs then a9w t (setRow v q (a0h ks o cs)) else do
   c08 t q o s
   a9w t (setRow v q (a0h ks o cs))
theorem c68 {s t:Nat} {q:List Nat} {o:Nat} {cs ks:List AV}:((f1o N s t q o ((st.put N (.agg cs)).s t) ks).run (st.put N (.agg cs))).map (·.2)=c4r (st.put N .dead) N s cs (some (t,q,o,ks)):=by
 have hN:(st.put N (.agg cs)).s N= .agg cs:=by simp
 simp only [f1o,b7p,Ev.run_bind,a4k,hN,Option.bind,Ev.run_pure,a0f,c4r,gO]
 by_cases h3:cs.length=s/\0 < s/\t < N/\o+s<=ks.length
 ·obtain ⟨g1,g2,g3,g4⟩:=h3
  have htN:t≠N:=Nat.ne_of_lt g3
  simp only [g1,g2,g3,g4,decide_true,Bool.and_self,if_true,and_self,a5m,b0y (show nm (AV.agg cs)=false from rfl),iO,htN,if_false,St.put_s]
  generalize a0l cs=b
  cases b<;>rfl
 ·have:(decide (cs.length=s)&&decide (0 < s)&&decide (t < N)&&decide (o+s<=ks.length))=false:=by
   simp only [Bool.and_eq_false_iff,decide_eq_false_iff_not]
   simp only [not_and] at h3
   by_cases g1:cs.length=s
   ·by_cases g2:0 < s
    ·by_cases g3:t < N
     ·exact .inr (h3 g1 g2 g3)
     ·exact .inl (.inr g3)
    ·exact .inl (.inl (.inr g2))
   ·exact .inl (.inl (.inl g1))
  simp only [this,Bool.false_eq_true,if_false,h3]
  rfl
@[go_sem] theorem d6r {T:TypeId} {s:Nat} {x y:X}:evS G N none (.store T s x y) st=e1e N s x (giv st N y (rdv st y)):=by
 have e:a03 G N none (.store T s x y)=(a3q y N >>=fun _=>c1v x >>=fun p=>f1o N s p.1 p.2.1 p.2.2.1 p.2.2.2.1 p.2.2.2.2.2):=rfl
 simp only [evS,e,Ev.run_bind,a9o,Option.bind,Ev.run]
 cases giv st N y (rdv st y) with
 | none=>rfl
 | some r=>
  obtain ⟨st1,cs⟩:=r
  simp only [Option.map,a6p,e1e,d4h]
  have hd:nm AV.dead=false:=rfl
  have ha:nm (AV.agg cs)=false:=rfl
  have hep:∀ t,(st1.put N (.agg cs)).ep t=(st1.put N .dead).ep t:=fun t=>by simp only [St.put_ep,hd,ha,Bool.false_eq_true,and_false,if_false]
  have hpt:∀ (z:AV) t q o e p,a5y (st1.put N z) x (.ref t q o e)=some p->p.1=t:=by
   intro z t q o e p hp
   simp only [a5y] at hp
   cases hr:eR (e==(st1.put N z).ep t) (a3a ((st1.put N z).s t) q) with
   | none=>rw [hr] at hp; cases hp
   | some ks=>
    rw [hr] at hp
    simp only [ptO,gO] at hp
    split at hp
    ·injection hp with hp; rw [<-hp]
    ·cases hp
  suffices hq:c4r (st1.put N .dead) N s cs (a5y (st1.put N (.agg cs)) x (rdv (st1.put N (.agg cs)) x))=c4r (st1.put N .dead) N s cs (a5y (st1.put N .dead) x (rdv (st1.put N .dead) x)) by
   rw [<-hq]
   cases a5y (st1.put N (.agg cs)) x (rdv (st1.put N (.agg cs)) x) with
   | none=>rfl
   | some p=>obtain ⟨t,q,o,ks⟩:=p; exact c68
  have hrd:rdv (st1.put N (.agg cs)) x=rdv (st1.put N .dead) x\/(rdv (st1.put N (.agg cs)) x= .agg cs/\rdv (st1.put N .dead) x= .dead):=by
   cases x with
   | t t=>
    by_cases ht:t=N
    ·exact .inr (by simp [rdv,ht])
    ·exact .inl (by simp [rdv,ht])
   | _=>exact .inl rfl
  rcases hrd with h | ⟨h1,h2⟩
  ·rw [h]
   cases hv:rdv (st1.put N .dead) x with
   | ref t q o e=>
    by_cases ht:t < N
    ·have htN:t≠N:=Nat.ne_of_lt ht
     have:a5y (st1.put N (.agg cs)) x (.ref t q o e)=a5y (st1.put N .dead) x (.ref t q o e):=by
      simp only [a5y,hep,St.put_s,htN,if_false]
     rw [this]
    ·rw [c4s (fun p hp=>by rw [hpt _ _ _ _ _ _ hp]; exact ht),c4s (fun p hp=>by rw [hpt _ _ _ _ _ _ hp]; exact ht)]
   | _=>rfl
  ·rw [h1,h2]; rfl
def c46 (v:AV):Option Int:=match v with
 | .lit (.int _ n)=>some n
 | _=>none
@[go_sem] theorem e3u {k:IntKind} {n:Int}:c46 (.lit (.int k n))=some n:=(rfl)
theorem b1k (x:X):(c07 x).run st=(c46 (rdv st x)).map fun n=>(n,st):=by
 simp only [c07,Ev.run_bind,a4x,Option.bind]
 cases rdv st x<;>try rfl
 rename_i v; cases v<;>rfl
def iaB (st:St) (sz:Nat) (n:Int) (t:Nat) (q:List Nat) (lo m:Nat) (k:Option AV):Option AV:=match k with
 | some (.own sz' n0 _)=>gO (n < (m:Int)/\sz'=sz/\lo+m<=n0) (some (.ref t q ((lo+n.toNat)*sz) (st.ep t)))
 | _=>none
@[congr] theorem d7m {sz:Nat} {n:Int} {t:Nat} {q:List Nat} {lo m:Nat} {k k':Option AV} (h:k=k'):iaB st sz n t q lo m k=iaB st sz n t q lo m k':=by rw [h]
@[go_sem] theorem e82 {sz:Nat} {n:Int} {t:Nat} {q:List Nat} {lo m sz' n0:Nat} {ks:List AV}:iaB st sz n t q lo m (some (.own sz' n0 ks))=gO (n < (m:Int)/\sz'=sz/\lo+m<=n0) (some (.ref t q ((lo+n.toNat)*sz) (st.ep t))):=(rfl)
def iaV (st:St) (sz:Nat) (n:Int) (x:X) (v:AV):Option AV:=match v with
 | .sl m ks=>gO (n < (m:Int)/\n.toNat*sz < ks.length) (some (.ip ks (n.toNat*sz)))
 | .own sz' m ks=>match x with
  | .t t=>iaB st sz n t [] 0 m (some (.own sz' m ks))
  | _=>none
 | .bor t q lo m e=>iaB st sz n t q lo m (a18 st t q e)
 | _=>none
@[congr] theorem d7o {sz:Nat} {n:Int} {x:X} {v v':AV} (h:v=v'):iaV st sz n x v=iaV st sz n x v':=by rw [h]
@[go_sem] theorem f4n {sz:Nat} {n:Int} {x:X} {m:Nat} {ks:List AV}:iaV st sz n x (.sl m ks)=gO (n < (m:Int)/\n.toNat*sz < ks.length) (some (.ip ks (n.toNat*sz))):=(rfl)
@[go_sem] theorem e84 {sz:Nat} {n:Int} {t sz' m:Nat} {ks:List AV}:iaV st sz n (.t t) (.own sz' m ks)=iaB st sz n t [] 0 m (some (.own sz' m ks)):=(rfl)
@[go_sem] theorem e83 {sz:Nat} {n:Int} {x:X} {t:Nat} {q:List Nat} {lo m e:Nat}:iaV st sz n x (.bor t q lo m e)=iaB st sz n t q lo m (a18 st t q e):=(rfl)
def iaO (st:St) (sz:Nat) (x:X) (v:AV) (i:Option Int):Option AV:=match i with
 | some n=>gO (0<=n) (iaV st sz n x v)
 | none=>none
@[congr] theorem d7n {sz:Nat} {x:X} {v v':AV} {i i':Option Int} (h:i=i') (h2:v=v'):iaO st sz x v i=iaO st sz x v' i':=by rw [h,h2]
@[go_sem] theorem e3t {sz:Nat} {x:X} {v:AV} {n:Int}:iaO st sz x v (some n)=gO (0<=n) (iaV st sz n x v):=(rfl)
theorem a9m {x:X} {t:Nat} {q:List Nat} {lo n e:Nat} (h:rdv st x= .bor t q lo n e):(a50 x).run st=if e=st.ep t then some ((t,q,lo,n),st) else none:=by
 simp only [a50,Ev.run_bind,a0t,h,Option.bind,a1l]
 by_cases he:e=st.ep t
 ·simp only [he,beq_self_eq_true,a0j,if_true]; rfl
 ·have:(e==st.ep t)=false:=by simpa using he
  simp only [this,a0j,Bool.false_eq_true,if_false,he]; rfl
theorem a9n {t sz n:Nat} {ks:List AV} (h:st.s t= .own sz n ks):(a50 (.t t)).run st=some ((t,[],0,n),st):=by
 simp only [a50,Ev.run_bind,a0t,rdv,h,Option.bind,b04,Ev.run]; rfl
theorem b0z {x:X} (h1:∀ t q lo n e,rdv st x≠ .bor t q lo n e) (h2:∀ sz n ks t,x= .t t->rdv st x≠ .own sz n ks):(a50 x).run st=none:=by
 simp only [a50,Ev.run_bind,a0t,Option.bind]
 cases hv:rdv st x<;>try rfl
 ·cases x<;>try rfl
  exact (h2 _ _ _ _ rfl hv).elim
 ·exact (h1 _ _ _ _ _ hv).elim
@[go_sem] theorem d6l {T:TypeId} {sz:Nat} {x i:X}:evS G N (some d) (.iaddr T sz x i) st=b1j st d (iaO st sz x (rdv st x) (c46 (rdv st i))):=by
 simp only [evS,a03,Ev.run_bind,b1k,Option.bind]
 cases c46 (rdv st i) with
 | none=>rfl
 | some n=>
  simp only [Option.map,Ev.run_bind,a0f,Option.bind,iaO,gO]
  by_cases h0:0<=n
  ·simp only [h0,decide_true,if_true,Ev.run_bind,a0t,Option.bind]
   cases hv:rdv st x with
   | sl m ks=>
    simp only [iaV,gO,Ev.run_bind,a0f,Option.bind]
    by_cases h1:n < (m:Int)
    ·by_cases h2:n.toNat*sz < ks.length
     ·simp only [h1,h2,decide_true,Bool.and_self,and_self,if_true]; rfl
     ·simp only [h2,decide_false,Bool.and_false,and_false,Bool.false_eq_true,if_false]; rfl
    ·simp only [h1,decide_false,Bool.false_and,false_and,Bool.false_eq_true,if_false]; rfl
   | bor t q lo m e=>
    simp only [Ev.run_bind,a9m hv,Option.bind,iaV]
    by_cases he:e=st.ep t
    ·simp only [he,if_true,Ev.run_bind,a0f,Option.bind,a1l,a18]
     by_cases h1:n < (m:Int)
     ·simp only [h1,decide_true,if_true,Ev.run_bind,a1l,Option.bind,a0y]
      cases a0e (st.s t) q with
      | none=>rfl
      | some k=>
       cases k<;>try rfl
       rename_i sz' n0 ks
       simp only [Option.map,iaB,gO,Ev.run_bind,a0f,Option.bind,h1,true_and]
       by_cases h2:sz'=sz
       ·by_cases h3:lo+m<=n0
        ·simp only [h2,h3,beq_self_eq_true,decide_true,Bool.and_self,if_true,and_self]; rfl
        ·simp only [h3,decide_false,Bool.and_false,and_false,Bool.false_eq_true,if_false]; rfl
       ·have:(sz'==sz)=false:=by simpa using h2
        simp only [this,h2,Bool.false_and,false_and,Bool.false_eq_true,if_false]; rfl
     ·simp only [h1,decide_false,Bool.false_eq_true,if_false]
      cases a0e (st.s t) q with
      | none=>rfl
      | some k=>cases k<;>try rfl
                simp only [iaB,gO,h1,false_and,if_false]; rfl
    ·simp only [he,if_false,a18]; rfl
   | own sz' m ks=>
    cases x with
    | t t=>
     simp only [rdv] at hv
     simp only [Ev.run_bind,a9n hv,Option.bind,iaV,iaB,gO,a0f]
     by_cases h1:n < (m:Int)
     ·simp only [h1,decide_true,if_true,Ev.run_bind,a1l,Option.bind,a0y,hv,a0e,Option.map,a0f,true_and]
      by_cases h2:sz'=sz
      ·simp only [h2,beq_self_eq_true,Nat.zero_add,Nat.le_refl,decide_true,Bool.and_self,if_true,and_self]; rfl
      ·have:(sz'==sz)=false:=by simpa using h2
       simp only [this,h2,Bool.false_and,false_and,Bool.false_eq_true,if_false]; rfl
     ·simp only [h1,decide_false,Bool.false_eq_true,if_false,false_and]; rfl
    | _=>rfl
   | _=>simp only [Ev.run_bind,b0z (st:=st) (x:=x) (by simp [hv]) (by simp [hv]),Option.bind]; rfl
  ·simp only [h0,decide_false,Bool.false_eq_true,if_false]; rfl
def oiK (st:St) (x:Option X) (dflt:Int):Option Int:=match x with
 | some x=>c46 (rdv st x)
 | none=>some dflt
@[go_sem] theorem e43 {z:Int}:oiK st none z=some z:=(rfl)
@[go_sem] theorem e44 {x:X} {z:Int}:oiK st (some x) z=c46 (rdv st x):=(rfl)
theorem a36 {x:Option X} {z:Int}:(a2t x z).run st=(oiK st x z).map fun n=>(n,st):=by
 cases x with
 | none=>rfl
 | some x=>exact b1k x
def slA (sz n:Nat) (ks:List AV) (lo hi:Option Int):Option AV:=match lo,hi with
 | some l,some h=>gO (0<=l/\l<=h/\h<=(n:Int)/\ks.length=n*sz) (some (.sl (h - l).toNat ((ks.drop (l.toNat*sz)).take ((h - l).toNat*sz))))
 | _,_=>none
@[congr] theorem e01 {sz n:Nat} {ks:List AV} {lo hi lo' hi':Option Int} (h:lo=lo') (h2:hi=hi'):slA sz n ks lo hi=slA sz n ks lo' hi':=by rw [h,h2]
@[go_sem] theorem e56 {sz n:Nat} {ks:List AV} {l h:Int}:slA sz n ks (some l) (some h)=gO (0<=l/\l<=h/\h<=(n:Int)/\ks.length=n*sz) (some (.sl (h - l).toNat ((ks.drop (l.toNat*sz)).take ((h - l).toNat*sz)))):=(rfl)
def slC (st:St) (sz t:Nat) (q:List Nat) (lo0 n sz' n0:Nat) (lo hi:Option Int):Option AV:=match lo,hi with
 | some l,some h=>gO (0<=l/\l<=h/\h<=(n:Int)/\lo0+n<=n0/\sz'=sz/\(lo0=0\/l=0\/l < h)) (some (.bor t q (lo0+l.toNat) (h - l).toNat (st.ep t)))
 | _,_=>none
@[congr] theorem e03 {sz t:Nat} {q:List Nat} {lo0 n sz' n0:Nat} {lo hi lo' hi':Option Int} (h:lo=lo') (h2:hi=hi'):slC st sz t q lo0 n sz' n0 lo hi=slC st sz t q lo0 n sz' n0 lo' hi':=by rw [h,h2]
@[go_sem] theorem e57 {sz t:Nat} {q:List Nat} {lo0 n sz' n0:Nat} {l h:Int}:slC st sz t q lo0 n sz' n0 (some l) (some h)=gO (0<=l/\l<=h/\h<=(n:Int)/\lo0+n<=n0/\sz'=sz/\(lo0=0\/l=0\/l < h)) (some (.bor t q (lo0+l.toNat) (h - l).toNat (st.ep t))):=(rfl)
def slB (st:St) (sz t:Nat) (q:List Nat) (lo0 n:Nat) (lo hi:Option X) (k:Option AV):Option AV:=match k with
 | some (.own sz' n0 _)=>slC st sz t q lo0 n sz' n0 (oiK st lo 0) (oiK st hi n)
 | _=>none
@[congr] theorem e02 {sz t:Nat} {q:List Nat} {lo0 n:Nat} {lo hi:Option X} {k k':Option AV} (h:k=k'):slB st sz t q lo0 n lo hi k=slB st sz t q lo0 n lo hi k':=by rw [h]
@[go_sem] theorem f1e {sz t:Nat} {q:List Nat} {lo0 n:Nat} {lo hi:Option X} {sz' n0:Nat} {ks:List AV}:slB st sz t q lo0 n lo hi (some (.own sz' n0 ks))=slC st sz t q lo0 n sz' n0 (oiK st lo 0) (oiK st hi n):=(rfl)
def slS (s:ByteArray) (lo hi:Option Int):Option AV:=match lo,hi with
 | some l,some h=>gO (0<=l/\l<=h/\h<=(s.size:Int)) (some (.lit (.string (s.extract l.toNat h.toNat))))
 | _,_=>none
@[go_sem] theorem e58 {s:ByteArray} {l h:Int}:slS s (some l) (some h)=gO (0<=l/\l<=h/\h<=(s.size:Int)) (some (.lit (.string (s.extract l.toNat h.toNat)))):=(rfl)
def slV (st:St) (sz:Nat) (x:X) (lo hi:Option X) (v:AV):Option AV:=match v with
 | .lit (.string s)=>gO (sz=0) (slS s (oiK st lo 0) (oiK st hi s.size))
 | .sl n ks=>gO (0 < sz) (slA sz n ks (oiK st lo 0) (oiK st hi n))
 | .own sz' n ks=>match x with
  | .t t=>gO (0 < sz) (slB st sz t [] 0 n lo hi (some (.own sz' n ks)))
  | _=>none
 | .bor t q lo0 n e=>gO (0 < sz) (slB st sz t q lo0 n lo hi (a18 st t q e))
 | _=>none
@[congr] theorem e05 {sz:Nat} {x:X} {lo hi:Option X} {v v':AV} (h:v=v'):slV st sz x lo hi v=slV st sz x lo hi v':=by rw [h]
section
variable {sz:Nat} {x:X} {lo hi:Option X}
@[go_sem] theorem f1h {s:ByteArray}:slV st sz x lo hi (.lit (.string s))=gO (sz=0) (slS s (oiK st lo 0) (oiK st hi s.size)):=(rfl)
@[go_sem] theorem f5z {n:Nat} {ks:List AV}:slV st sz x lo hi (.sl n ks)=gO (0 < sz) (slA sz n ks (oiK st lo 0) (oiK st hi n)):=(rfl)
@[go_sem] theorem f1g {t sz' n:Nat} {ks:List AV}:slV st sz (.t t) lo hi (.own sz' n ks)=gO (0 < sz) (slB st sz t [] 0 n lo hi (some (.own sz' n ks))):=(rfl)
@[go_sem] theorem f1f {t:Nat} {q:List Nat} {lo0 n e:Nat}:slV st sz x lo hi (.bor t q lo0 n e)=gO (0 < sz) (slB st sz t q lo0 n lo hi (a18 st t q e)):=(rfl)
end
theorem e04 {sz t:Nat} {q:List Nat} {lo0 n sz' n0 e:Nat} {lo hi:Option X} (he:e=st.ep t) :
  ((do
    let l<-a2t lo 0
    let h<-a2t hi n
    a0j (decide (0<=l)&&decide (l<=h)&&decide (h<=(n:Int))&&decide (lo0+n<=n0)&&sz'==sz&&(lo0==0||l==0||decide (l < h)))
    setD (some d) (.bor t q (lo0+l.toNat) (h - l).toNat e):Ev Unit).run st).map (·.2)=b1j st d (slC st sz t q lo0 n sz' n0 (oiK st lo 0) (oiK st hi n)):=by
 subst he
 simp only [Ev.run_bind,a36,Option.bind,slC]
 cases oiK st lo 0 with
 | none=>rfl
 | some l=>
  simp only [Option.map,a36]
  cases oiK st hi n with
  | none=>rfl
  | some h=>
   simp only [Option.map,Ev.run_bind,a0f,Option.bind,gO]
   by_cases hc:0<=l/\l<=h/\h<=(n:Int)/\lo0+n<=n0/\sz'=sz/\(lo0=0\/l=0\/l < h)
   ·have:(decide (0<=l)&&decide (l<=h)&&decide (h<=(n:Int))&&decide (lo0+n<=n0)&&sz'==sz&&(lo0==0||l==0||decide (l < h)))=true:=by
     simp only [Bool.and_eq_true,Bool.or_eq_true,decide_eq_true_eq,beq_iff_eq]
     omega
    rw [if_pos hc]
    simp only [this,if_true]; rfl
   ·have:(decide (0<=l)&&decide (l<=h)&&decide (h<=(n:Int))&&decide (lo0+n<=n0)&&sz'==sz&&(lo0==0||l==0||decide (l < h)))=false:=by
     rw [Bool.eq_false_iff]
     intro hh
     simp only [Bool.and_eq_true,Bool.or_eq_true,decide_eq_true_eq,beq_iff_eq] at hh
     exact hc (by omega)
    rw [if_neg hc]
    simp only [this,Bool.false_eq_true,if_false]; rfl
@[go_sem] theorem d6q {T:TypeId} {sz:Nat} {x:X} {lo hi:Option X}:evS G N (some d) (.slice T sz x lo hi none) st=b1j st d (slV st sz x lo hi (rdv st x)):=by
 simp only [evS,a03,Ev.run_bind,a0t,Option.bind]
 have hno:∀ v:AV,rdv st x=v->(∀ t q lo n e,v≠ .bor t q lo n e)->(∀ sz n ks t,x= .t t->v≠ .own sz n ks)->((a0j (decide (0 < sz)) >>=fun _=>(a50 x >>=fun r=>(do
   let v<-a94 r.1
   let k<-a3j (a0e v.1 r.2.1)
   match k with
   | .own sz' n0 _=>do
    let l<-a2t lo 0
    let h<-a2t hi r.2.2.2
    a0j (decide (0<=l)&&decide (l<=h)&&decide (h<=(r.2.2.2:Int))&&decide (r.2.2.1+r.2.2.2<=n0)&&sz'==sz&&(r.2.2.1==0||l==0||decide (l < h)))
    match (none:Option X) with
    | none=>setD (some d) (.bor r.1 r.2.1 (r.2.2.1+l.toNat) (h - l).toNat v.2)
    | some m=>do
     let m<-c07 m
     a0j (l==0&&h==0&&m==0&&hi.isSome)
     a3o N (some d) (.own sz 0 [])
   | _=> .fail:Ev Unit)):Ev Unit).run st).map (·.2)=none:=by
  intro v hv h1 h2
  have hb:=b0z (st:=st) (x:=x) (by rw [hv]; exact h1) (by rw [hv]; exact h2)
  by_cases h0:0 < sz
  ·simp only [Ev.run_bind,a0f,Option.bind,h0,decide_true,if_true,hb]; rfl
  ·simp only [Ev.run_bind,a0f,Option.bind,h0,decide_false,Bool.false_eq_true,if_false]; rfl
 cases hv:rdv st x with
 | lit v=>
  cases v<;>try exact hno _ hv (by simp) (by simp)
  rename_i s
  simp only [slV,Ev.run_bind,a36,Option.bind,slS,gO]
  cases oiK st lo 0 with
  | none=>simp only [Option.map,ite_self]; rfl
  | some l=>
   simp only [Option.map,a36]
   cases oiK st hi s.size with
   | none=>simp only [Option.map,ite_self]; rfl
   | some h=>
    simp only [Option.map,Ev.run_bind,a0f,Option.bind,Option.isNone,Bool.and_true]
    by_cases hz:sz=0
    ·by_cases hc:0<=l/\l<=h/\h<=(s.size:Int)
     ·obtain ⟨h1,h2,h3⟩:=hc
      simp only [h1,h2,h3,hz,decide_true,Bool.and_self,beq_self_eq_true,if_true,and_self]; rfl
     ·have:(decide (0<=l)&&decide (l<=h)&&decide (h<=(s.size:Int)))=false:=by
       rw [Bool.eq_false_iff]; intro hh
       simp only [Bool.and_eq_true,decide_eq_true_eq] at hh
       exact hc (by omega)
      simp only [this,hz,Bool.false_and,Bool.false_eq_true,if_false,hc,if_true]; rfl
    ·have:(sz==0)=false:=by simpa using hz
     simp only [this,hz,Bool.and_false,Bool.false_eq_true,if_false]; rfl
 | sl n ks=>
  simp only [slV,gO,Ev.run_bind,a0f,Option.bind,slA]
  by_cases h0:0 < sz
  ·simp only [h0,decide_true,if_true,Ev.run_bind,a36,Option.bind]
   cases oiK st lo 0 with
   | none=>rfl
   | some l=>
    simp only [Option.map,a36]
    cases oiK st hi n with
    | none=>rfl
    | some h=>
     simp only [Option.map,Ev.run_bind,a0f,Option.bind,gO]
     by_cases hc:0<=l/\l<=h/\h<=(n:Int)/\ks.length=n*sz
     ·obtain ⟨h1,h2,h3,h4⟩:=hc
      simp only [h1,h2,h3,h4,decide_true,Bool.and_self,if_true,and_self]; rfl
     ·have:(decide (0<=l)&&decide (l<=h)&&decide (h<=(n:Int))&&decide (ks.length=n*sz))=false:=by
       rw [Bool.eq_false_iff]; intro hh
       simp only [Bool.and_eq_true,decide_eq_true_eq] at hh
       exact hc ⟨hh.1.1.1,hh.1.1.2,hh.1.2,hh.2⟩
      simp only [this,Bool.false_eq_true,if_false,hc]; rfl
  ·simp only [h0,decide_false,Bool.false_eq_true,if_false]; rfl
 | bor t q lo0 n e=>
  simp only [slV,gO,Ev.run_bind,a0f,Option.bind]
  by_cases h0:0 < sz
  ·simp only [h0,decide_true,if_true,Ev.run_bind,a9m hv,Option.bind]
   by_cases he:e=st.ep t
   ·simp only [he,if_true,a18]
    simp only [a1l,a0y]
    cases a0e (st.s t) q with
    | none=>rfl
    | some k=>cases k<;>first | rfl | exact e04 rfl
   ·simp only [he,if_false,a18]; rfl
  ·simp only [h0,decide_false,Bool.false_eq_true,if_false]; rfl
 | own sz' m ks=>
  cases x with
  | t t=>
   simp only [rdv] at hv
   simp only [slV,gO,Ev.run_bind,a0f,Option.bind]
   by_cases h0:0 < sz
   ·simp only [h0,decide_true,if_true,Ev.run_bind,a9n hv,Option.bind]
    simp only [a1l,a0y,hv,a0e,Option.map]
    exact e04 rfl
   ·simp only [h0,decide_false,Bool.false_eq_true,if_false]; rfl
  | _=>exact hno _ hv (by simp) (by simp)
 | _=>exact hno _ hv (by simp) (by simp)
end
end Go.Ideal
end
