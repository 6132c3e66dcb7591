/- Part Qac of the proof: walks on a machine that is proved sound. -/
import Derived.Test.YtploijbaclgehaaDoorQab
import Derived.MapKept
import Derived.Carry
import Derived.LaidEql
set_option linter.unusedVariables false
set_option linter.unusedSimpArgs false
section
namespace Go.Ideal
open Classical
theorem b9t {w:World} {M:BS}:∀ (q:List Nat) {av:AV} {Q:QR} {F:BS} {v:Value} {k:AV},R w M av Q F v->a0c av q=some k->
  ∃ u,a06 w v q=some u/\∃ Fk G:BS,(∀ x,Fk x->F x)/\(∀ x,G x->F x)/\(∀ x,Fk x->G x->False)/\R w M k (if q=[] then Q else noQ) Fk u/\
   ∀ (w':World) (M':BS) (k':AV) (F':BS) (Q':QR),(∀ x,M x->M' x)->(∀ x,M x->w'.heap[x]? =w.heap[x]?)->(∀ x,G x->w'.heap[x]? =w.heap[x]?)->(∀ x,F' x->G x->False)->
    R w' M' k' (if q=[] then Q' else noQ) F' u->R w' M' (a0h av q k') Q' (fun x=>F' x\/G x) v
 | [],av,Q,F,v,k,h,hk=>by
  simp only [a0c,Option.some.injEq] at hk
  subst hk
  refine ⟨v,rfl,F,noB,fun _ h=>h,fun _ h=>h.elim,fun _ _ h=>h,by simpa using h,fun w' M' k' F' Q' _ _ _ _ hr=> ?_⟩
  simp only [a0h]
  exact a1l (fun x hx=> .inl hx) (by simpa using hr)
 | i::q,av,Q,F,v,k,h,hk=>by
  simp only [a0c] at hk
  cases h0:a0l av with
  | none=>simp [h0] at hk
  | some ks0=>
   simp only [h0] at hk
   cases hi:ks0[i]? with
   | none=>simp [hi] at hk
   | some k0=>
    simp only [hi] at hk
    have hne0:ks0≠[]:=by intro he; simp [he] at hi
    obtain ⟨b0,cur0,T0,fz0,g1,g2,g3,g4,g5,g5c,g6,fill0⟩:=b6c h h0 hne0
    obtain ⟨u0,hu,F1,G1,f1,f2,f3,f4,fill1⟩:=a5g g6 hi
    obtain ⟨u,e1,Fk,G,e2,e3,e4,e5,fill2⟩:=b9t q f4 hk
    refine ⟨u,?_,Fk,fun x=>G x\/G1 x\/x=b0,fun x hx=>(f1 x (e2 x hx)).1,?_,?_,?_,fun w' M' k' F' Q' hM hMw hG hd hr=> ?_⟩
    ·simp only [a06,g1,a0z g3,a1i hu,e1]
    ·rintro x (hx | hx | hx)
     ·exact (f1 x (e3 x hx)).1
     ·exact (f2 x hx).1
     ·subst hx; exact g2
    ·rintro x hx (hg | hg | hg)
     ·exact e4 x hx hg
     ·exact f3 x (e2 x hx) hg
     ·exact (f1 x (e2 x hx)).2 hg
    ·simp only [reduceCtorEq,if_false]
     split at e5<;>exact e5
    ·simp only [a0h,h0,hi]
     have r2:=fill2 w' M' k' F' noQ hM hMw (fun x hx=>hG x (.inl hx)) (fun x hx hg=>hd x hx (.inl hg)) (by split<;>simpa using hr)
     have r1:=fill1 w' M' (a0h k0 q k') u0 (fun x=>F' x\/G x) hM hMw (fun x hx=>hG x (.inr (.inl hx))) (by
      rintro x (hx | hx) hg
      ·exact hd x hx (.inr (.inl hg))
      ·exact f3 x (e3 x hx) hg) r2
     rw [b32 hu] at r1
     have hh0:w'.heap[b0]? =some (.cells cur0 T0 fz0):=by rw [hG b0 (.inr (.inr rfl))]; exact g3
     have r0:=fill0 w' M' Q' cur0 (ks0.set i (a0h k0 q k')) (fun x=>(F' x\/G x)\/G1 x) hh0 rfl (by simp) (by
      rintro x ((hx | hx) | hx)
      ·exact fun hb=>hd x hx (.inr (.inr hb))
      ·exact (f1 x (e3 x hx)).2
      ·exact (f2 x hx).2) g5c r1
     refine a1l ?_ r0
     rintro x (((hx | hx) | hx) | hx)
     ·exact .inl hx
     ·exact .inr (.inl hx)
     ·exact .inr (.inr (.inl hx))
     ·exact .inr (.inr (.inr hx))
theorem a9z:∀ (q:List Nat) {av k:AV} {a:List Int} {b:List AV} {q':List Nat} {k':AV},a0c av q=some k->c36 k=true->a0c (a0h av q (.mp a b)) q'=some k'->nm k'=true->
  ∃ k1,a0c av q'=some k1/\Like k' k1
 | [],av,k,a,b,q',k',h,h0,hn,hr=>by
  simp only [a0c,Option.some.injEq] at h
  subst h
  simp only [a0h] at hn
  cases q' with
  | nil=>
   simp only [a0c,Option.some.injEq] at hn
   subst hn
   exact ⟨av,rfl,fun ks' h=>(by simp [a0l] at h),fun sz n ks' h=>(by cases h),fun _=>h0⟩
  | cons i q'=>simp only [a0c,a0l] at hn; cases hn
 | i::q,av,k,a,b,q',k',hk,h0,hn,hr=>by
  simp only [a0c] at hk
  cases hrow:a0l av with
  | none=>simp [hrow] at hk
  | some ks=>
   simp only [hrow] at hk
   cases hi:ks[i]? with
   | none=>simp [hi] at hk
   | some ki=>
    simp only [hi] at hk
    simp only [a0h,hrow,hi] at hn
    obtain ⟨hlike,hrow'⟩:=a4a av ks (ks.set i (a0h ki q (.mp a b))) hrow (by simp)
    cases q' with
    | nil=>
     simp only [a0c,Option.some.injEq] at hn
     subst hn
     exact ⟨av,rfl,hlike⟩
    | cons j q'=>
     simp only [a0c,hrow'] at hn
     simp only [a0c,hrow]
     by_cases hij:j=i
     ·subst hij
      have hlt:j < ks.length:=(List.getElem?_eq_some_iff.1 hi).1
      simp only [List.getElem?_set,hlt,if_true] at hn
      simp only [hi]
      exact a9z q hk h0 hn hr
     ·rw [List.getElem?_set_ne (by omega)] at hn
      cases hj:ks[j]? with
      | none=>simp [hj] at hn
      | some kj=>simp only [hj] at hn ⊢; exact ⟨k',hn,Like.refl k'⟩
section
variable {E:Env} {N:Nat} {st:St} {a:Act} {w:World} {val:Nat->Value} {ow:Nat->Option Nat}
theorem Sim.mapw (h:Sim E N st a w val ow) {t:Nat} {q:List Nat} {keys:List Int} {vals:List AV} (hk:a0c (st.s t) q=some (.mp keys vals)) :
  ∃ b es ck,a06 w (val t) q=some (.map (some b))/\w.heap[b]? =some (.map es ck)/\es.toList.map (·.key)=keys.map (fun k=>Value.int .i64 k)/\RL w (Mo E w ow) vals noQ noB (es.toList.map (·.val))/\
   ∀ (w':World) (es':Array MapEntry) (ck':Nat) (keys':List Int) (vals':List AV),w'.heap=w.heap.setIfInBounds b (.map es' ck')->w'.os=w.os->w'.tape=w.tape->w'.output=w.output->
    es'.toList.map (·.key)=keys'.map (fun k=>Value.int .i64 k)->RL w (Mo E w ow) vals' noQ noB (es'.toList.map (·.val))->Sim E N (st.set t (a0h (st.s t) q (.mp keys' vals'))) a w' val ow:=by
 obtain ⟨u,hu,Fk,G,e1,e2,e3,e4,fill⟩:=b9t q (h.slots t) hk
 simp only [R] at e4
 obtain ⟨b,es,ck,rfl,hb,hh,hke,hr⟩:=e4
 refine ⟨b,es,ck,hu,hh,hke,hr,fun w' es' ck' keys' vals' f1 f2 f3 f4 hk' hr'=> ?_⟩
 have how:ow b=some t:=e1 b hb
 have hlt:b < w.heap.size:=h.lt b t how
 have hw:∀ x,x≠b->w'.heap[x]? =w.heap[x]? :=fun x hx=>by rw [f1,Array.getElem?_setIfInBounds_ne (Ne.symm hx)]
 have hat:w'.heap[b]? =some (.map es' ck'):=by rw [f1,Array.getElem?_setIfInBounds_self_of_lt hlt]
 have hcell:∀ x,w'.cell? x=w.cell? x:=fun x=>by
  by_cases hx:x.block=b
  ·simp [World.cell?,hx,hat,hh]
  ·exact a27 (hw _ hx)
 have hsz:w'.heap.size=w.heap.size:=by rw [f1]; simp
 have hMb:∀ x,Mo E w ow x->x≠b:=fun x hx he=>by subst he; have:=hx.1; rw [how] at this; cases this
 have hM:∀ x,Mo E w ow x->Mo E w' ow x/\w'.heap[x]? =w.heap[x]? :=fun x hx=>⟨⟨hx.1,by rw [hsz]; exact hx.2.1,hx.2.2⟩,hw x (hMb x hx)⟩
 have hGb:∀ x,G x->x≠b:=fun x hx he=>by subst he; exact e3 x hb hx
 have hub:∀ u,u≠t->∀ x,ow x=some u->x≠b:=fun u hne x hx he=>by subst he; rw [how] at hx; injection hx with hx; exact hne hx.symm
 exact {
  size:=h.size,defers:=h.defers,agree:=h.agree
  lt:=fun x t hx=>by rw [hsz]; exact h.lt x t hx
  old:=fun x hx hE=>by
   obtain ⟨h1,h2⟩:=h.old x hx hE
   exact ⟨h1,(hw x (by rintro rfl; rw [how] at h1; cases h1)).trans h2⟩
  le:=by rw [hsz]; exact h.le
  os:=f2.trans h.os,tape:=f3.trans h.tape,output:=f4.trans h.output
  glob:=fun g v hg=>by
   obtain ⟨h1,h2⟩:=h.globA g v hg
   have h3:=(h.old g h1 h2).1
   exact (h.glob g v hg).keep (hw g (by rintro rfl; rw [how] at h3; cases h3))
  globA:=h.globA
  slots:=a1y h (fun _ _=>false) (fun u=>u=t) (fun u hu=>by
    rw [a2z]
    exact ⟨by simp [hu],rfl,fun x hx=>⟨hx,hw x (hub u hu x hx)⟩⟩) (fun u hu=>by
    subst hu
    simp only [St.set_s,if_true]
    refine a1l ?_ (fill w' (Mo E w' ow) (.mp keys' vals') (fun x=>x=b) (QS w' _ val) (fun x hx=>(hM x hx).1) (fun x hx=>(hM x hx).2) (fun x hx=>hw x (hGb x hx)) (fun x hx hg=>hGb x hg hx) ?_)
    ·rintro x (hx | hx)
     ·rw [hx]; exact how
     ·exact e2 x hx
    ·simp only [R]
     exact ⟨b,es',ck',rfl,rfl,hat,hk',a1a (fun x hx=>(hM x hx).1) (fun x hx=>(hM x hx).2) vals' (fun _ _ h=>h) (fun _ h=>h) (fun _ h=>h.elim) hr'⟩) (fun x hx=>hM x hx) (fun u q' _=>by
    by_cases hu:u=t
    ·subst hu
     refine Stab.like (Nat.le_refl _) (fun k' hk' hnm=> ?_) (a6r hcell q' (val u))
     simp only [St.set_s,if_true] at hk'
     exact a9z q hk rfl hk' hnm
    ·exact Stab.same rfl (by simp [hu]) (a6r hcell q' (val u))) }
end
open Classical Go.MapKept
section
variable {w:World} {M:BS}
theorem b0i:∀ (es:List MapEntry) (keys:List Int) (vals:List AV) (i:Nat) (n:Int),es.map (·.key)=keys.map (fun k=>Value.int .i64 k)->RL w M vals noQ noB (es.map (·.val))->
  (a36 keys vals n=none/\Instr.findNow (.int .i64) (.int .i64 n) es i=some none)\/
  (∃ v j e,a36 keys vals n=some v/\Instr.findNow (.int .i64) (.int .i64 n) es i=some (some (i+j,e.val))/\es[j]? =some e/\e.key= .int .i64 n/\R w M v noQ noB e.val)
 | [],keys,vals,i,n,hk,hr=>by
  have:keys=[]:=by cases keys with
   | nil=>rfl
   | cons=>simp at hk
  subst this
  left
  exact ⟨by simp [a36],by simp [Instr.findNow]⟩
 | e::es,keys,vals,i,n,hk,hr=>by
  cases keys with
  | nil=>simp at hk
  | cons k keys=>
   cases vals with
   | nil=>simp [RL] at hr
   | cons v vals=>
    simp only [List.map_cons,List.cons.injEq] at hk
    simp only [List.map_cons,RL,List.cons.injEq] at hr
    obtain ⟨v1,vs1,⟨h1,h2⟩,F1,F2,f1,f2,fd,hrv,hrs⟩:=hr
    subst h1 h2
    have hrv':R w M v noQ noB e.val:=a1l f1 hrv
    have hrs':RL w M vals noQ noB (es.map (·.val)):=a1r f2 hrs
    by_cases hkn:k=n
    ·subst hkn
     right
     refine ⟨v,0,e,by simp [a36],?_,rfl,hk.1,hrv'⟩
     simp [Instr.findNow,hk.1,Instr.sameNow]
    ·have hs:Instr.sameNow (.int .i64) (.int .i64 n) e.key=some false:=by
      rw [hk.1]; simp [Instr.sameNow,Ne.symm hkn]
     rcases b0i es keys vals (i+1) n hk.2 hrs' with ⟨g1,g2⟩ | ⟨u,j,e',g1,g2,g3,g4,g5⟩
     ·left
      exact ⟨by simp [a36,hkn,g1],by simp [Instr.findNow,hs,g2]⟩
     ·right
      refine ⟨u,j+1,e',by simp [a36,hkn,g1],?_,by simpa using g3,g4,g5⟩
      simp [Instr.findNow,hs,g2]; omega
theorem b3h:∀ (es:List MapEntry) (keys:List Int) (vals:List AV) (n:Int) (x:AV) (u:Value),es.map (·.key)=keys.map (fun k=>Value.int .i64 k)->RL w M vals noQ noB (es.map (·.val))->R w M x noQ noB u->
  (a36 keys vals n=none->∀ e:MapEntry,e.key= .int .i64 n->e.val=u->(es++[e]).map (·.key)=(a28 keys vals n x).1.map (fun k=>Value.int .i64 k)/\RL w M (a28 keys vals n x).2 noQ noB ((es++[e]).map (·.val)))/\
  (∀ v j e,a36 keys vals n=some v->Instr.findNow (.int .i64) (.int .i64 n) es 0=some (some (j,e))->∀ e':MapEntry,e'.key= .int .i64 n->e'.val=u->
   (es.set j e').map (·.key)=(a28 keys vals n x).1.map (fun k=>Value.int .i64 k)/\RL w M (a28 keys vals n x).2 noQ noB ((es.set j e').map (·.val)))
 | [],keys,vals,n,x,u,hk,hr,hx=>by
  have:keys=[]:=by cases keys with
   | nil=>rfl
   | cons=>simp at hk
  subst this
  refine ⟨fun _ e h1 h2=> ?_,fun v j e h=>by simp [a36] at h⟩
  simp only [a28,List.nil_append,List.map_cons,List.map_nil,h1,h2,RL,true_and]
  exact ⟨u,[],rfl,noB,noB,fun _ h=>h,fun _ h=>h,fun _ h=>h.elim,hx,rfl⟩
 | e0::es,keys,vals,n,x,u,hk,hr,hx=>by
  cases keys with
  | nil=>simp at hk
  | cons k keys=>
   cases vals with
   | nil=>simp [RL] at hr
   | cons v vals=>
    simp only [List.map_cons,List.cons.injEq] at hk
    simp only [List.map_cons,RL,List.cons.injEq] at hr
    obtain ⟨v1,vs1,⟨h1,h2⟩,F1,F2,f1,f2,fd,hrv,hrs⟩:=hr
    subst h1 h2
    have hrv':R w M v noQ noB e0.val:=a1l f1 hrv
    have hrs':RL w M vals noQ noB (es.map (·.val)):=a1r f2 hrs
    have cons:∀ {a:AV} {b:Value} {as:List AV} {bs:List Value},R w M a noQ noB b->RL w M as noQ noB bs->RL w M (a::as) noQ noB (b::bs):=fun h1 h2=>by
     simp only [RL]
     exact ⟨_,_,rfl,noB,noB,fun _ h=>h,fun _ h=>h,fun _ h=>h.elim,h1,h2⟩
    by_cases hkn:k=n
    ·subst hkn
     refine ⟨fun h=>by simp [a36] at h,fun v' j e h1 h2 e' h3 h4=> ?_⟩
     have hj:j=0:=by
      simp only [Instr.findNow,hk.1,Instr.sameNow,if_true,beq_self_eq_true,Option.some.injEq,Prod.mk.injEq] at h2
      exact h2.1.symm
     subst hj
     simp only [a28,if_true,List.set_cons_zero,List.map_cons,h3,h4,hk.2,true_and]
     exact cons hx hrs'
    ·have hs:Instr.sameNow (.int .i64) (.int .i64 n) e0.key=some false:=by
      rw [hk.1]; simp [Instr.sameNow,Ne.symm hkn]
     have ih:=b3h es keys vals n x u hk.2 hrs' hx
     refine ⟨fun h e h1 h2=> ?_,fun v' j e h1 h2 e' h3 h4=> ?_⟩
     ·simp only [a36,hkn,if_false] at h
      obtain ⟨g1,g2⟩:=ih.1 h e h1 h2
      simp only [a28,hkn,if_false,List.cons_append,List.map_cons,hk.1,g1,true_and]
      exact cons hrv' g2
     ·simp only [a36,hkn,if_false] at h1
      rcases b0i es keys vals 0 n hk.2 hrs' with ⟨g1,g2⟩ | ⟨u2,j2,e2,g1,g2,g3,g4,g5⟩
      ·rw [g1] at h1; cases h1
      ·have hgen:∀ (l:List MapEntry) (a b:Nat),Instr.findNow (.int .i64) (.int .i64 n) l (a+b)=(Instr.findNow (.int .i64) (.int .i64 n) l a).map (fun r=>r.map fun p=>(p.1+b,p.2)):=by
        intro l
        induction l with
        | nil=>intro a b; simp [Instr.findNow]
        | cons y l ihl=>
         intro a b
         simp only [Instr.findNow]
         cases Instr.sameNow (.int .i64) (.int .i64 n) y.key with
         | none=>rfl
         | some r=>
          cases r with
          | true=>simp
          | false=>
           have:=ihl (a+1) b
           rw [show a+b+1=a+1+b by omega]
           simpa using this
       simp only [Instr.findNow,hs] at h2
       have:=hgen es 0 1
       rw [this,g2] at h2
       simp only [Option.map_some,Option.some.injEq,Prod.mk.injEq,Nat.zero_add] at h2 g2
       obtain ⟨rfl,_⟩:=h2
       obtain ⟨q1,q2⟩:=ih.2 u2 j2 e2.val g1 g2 e' h3 h4
       simp only [a28,hkn,if_false,List.set_cons_succ,List.map_cons,hk.1,q1,true_and]
       exact cons hrv' q2
end
section
variable {E:Env} {N:Nat} {st:St} {a:Act} {w:World} {val:Nat->Value} {ow:Nat->Option Nat} {P:Program} {o:Oper} {u:Unit} {st':St} {G:GG}
theorem b69 (h:Sim E N st a w val ow) {T:TypeId} (ho:o.op= .makeMap T none) (hd:∀ d,o.dst=some d->d < N)
  (hr:(a0w G N o.dst (.mkmap T)).run st=some (u,st')):Done E N P o a w st':=by
 simp only [a0w] at hr
 have hrun:(execOp a.eval o).run P w= .ok (.value (.map (some w.heap.size))) (w.alloc (.map #[] 0)):=by
  simp only [execOp,ho]
  exact a3c rfl
 have hlt:∀ b,b < w.heap.size->(w.alloc (.map #[] 0)).heap[b]? =w.heap[b]? :=fun b hb=>by
  show (w.heap.push _)[b]? =_
  rw [Array.getElem?_push_lt hb]; simp [hb]
 have hsz:(w.alloc (.map #[] 0)).heap.size=w.heap.size+1:=by
  show (w.heap.push _).size=_
  simp
 have hat:(w.alloc (.map #[] 0)).heap[w.heap.size]? =some (.map #[] 0):=by
  show (w.heap.push _)[w.heap.size]? =_
  simp
 have hne:∀ b t,ow b=some t->b≠w.heap.size:=fun b t hb=>by have:=h.lt b t hb; omega
 have hM:∀ b,Mo E w ow b->Mo E (w.alloc (.map #[] 0)) (fun b=>if b=w.heap.size then some N else ow b) b/\(w.alloc (.map #[] 0)).heap[b]? =w.heap[b]? :=fun b hb=>by
  have h1:=hb.2.1
  refine ⟨⟨?_,by omega,hb.2.2⟩,hlt b h1⟩
  have:b≠w.heap.size:=by omega
  simp [this,hb.1]
 have hsim:Sim E N (st.put N (.mp [] [])) a (w.alloc (.map #[] 0)) (a0u val N (.map (some w.heap.size))) (fun b=>if b=w.heap.size then some N else ow b):={
  size:=h.size,defers:=h.defers
  agree:=fun t ht=>(h.agree t ht).trans (by have:t≠N:=by omega
                                            simp [a0u,this])
  lt:=fun b t hb=>by
   by_cases h1:b=w.heap.size
   ·omega
   ·simp [h1] at hb; have:=h.lt b t hb; omega
  old:=fun b hb hF=>by
   have h1:b < w.heap.size:=Nat.lt_of_lt_of_le hb h.le
   have:b≠w.heap.size:=by omega
   exact ⟨by simp [this,(h.old b hb hF).1],(hlt b h1).trans (h.old b hb hF).2⟩
  le:=by have:=h.le; omega
  os:=h.os,tape:=h.tape,output:=h.output
  glob:=fun g v hg=>(h.glob g v hg).keep (hlt g (Nat.lt_of_lt_of_le (h.globA g v hg).1 h.le))
  globA:=h.globA
  slots:=a1y h (fun _ _=>false) (fun u=>u=N) (fun t ht=>by
    have ht':t≠N:=ht
    rw [a2z]
    exact ⟨by simp [ht'],by simp [a0u,ht'],fun b hb=>⟨by simp [hne b t hb,hb],hlt b (h.lt b t hb)⟩⟩) (fun t ht=>by
    have ht':t=N:=ht
    subst ht'
    simp only [St.put_s,if_true,a0u,R]
    exact ⟨w.heap.size,#[],0,rfl,by simp,hat,rfl,by simp [RL]⟩) hM (fun t q _=>by
    by_cases ht:t=N
    ·subst ht; exact Stab.put (v:= .mp [] []) (by simp) (by simp [St.put_ep]) q
    ·refine ⟨by simp [St.put_ep,ht],fun _ k' hk _=>⟨k',by simpa [ht] using hk,fun ks' h hne=>⟨ks',h,hne⟩,fun _ _ ks' h=>⟨ks',h⟩,fun h=>h,?_⟩⟩
     simp only [a0u,ht,if_false]
     have hk':a0c (st.s t) q=some k':=by simpa [ht] using hk
     exact a15 q (h.slots t) hk' (fun b hb=>hlt b (h.lt b t hb))) }
 exact Done.thru hd hrun hsim (by simp [a0u]) hr
theorem b2r (h:Sim E N st a w val ow) {x:X} (hx:okX N x=true) {t:Nat} {q:List Nat} {v0:AV} {keys:List Int} {vals:List AV} (hr:(c52 x).run st=some ((t,q,v0,keys,vals),st')) :
  st'=st/\v0=st.s t/\a0c (st.s t) q=some (.mp keys vals)/\a06 w (val t) q=some (a.eval x.op):=by
 unfold c52 at hr
 obtain ⟨r,st1,h1,h2⟩:=a0a hr
 obtain ⟨rfl,hR,ht⟩:=a0i h hx h1
 obtain ⟨v,e⟩:=r
 cases v<;>simp only [Ev.run_fail,reduceCtorEq] at h2
 case bor t1 q1 lo1 n1 e1=>
  obtain ⟨r2,st2,h3,h4⟩:=a0a h2
  obtain ⟨rfl,rfl⟩:=a09 h3
  obtain ⟨_,st3,h5,h6⟩:=a0a h4
  obtain ⟨h7,rfl⟩:=a0b h5
  obtain ⟨k,st4,h8,h9⟩:=a0a h6
  obtain ⟨hk,rfl⟩:=a0r h8
  simp only at hk
  cases k<;>simp only [Ev.run_fail,Ev.run_pure,reduceCtorEq,Option.some.injEq,Prod.mk.injEq] at h9
  obtain ⟨⟨rfl,rfl,rfl,rfl,rfl⟩,rfl⟩:=h9
  simp only [R,QS] at hR
  exact ⟨rfl,rfl,hk,hR.2.2 (by simpa using h7) _ _ hk⟩
theorem b2m (h:Sim E N st a w val ow) {x:X} (hx:okX N x=true) {n:Int} {st':St} (hr:(c5s x).run st=some (n,st')):st'=st/\a.eval x.op= .int .i64 n:=by
 unfold c5s at hr
 obtain ⟨v,st1,h1,h2⟩:=a0a hr
 obtain ⟨rfl,hv⟩:=a18 h hx h1
 split at h2
 ·simp only [Ev.run_pure,Option.some.injEq,Prod.mk.injEq] at h2
  obtain ⟨rfl,rfl⟩:=h2
  exact ⟨rfl,hv⟩
 ·simp [Ev.run] at h2
theorem d4c {T e:TypeId} (hT:(match P.underlying T with | some (.map kt e')=>e'==e&&(match P.underlying kt with | some (.int .i64)=>true | _=>false) | _=>false)=true):∃ kt,P.underlying T=some (.map kt e)/\P.underlying kt=some (.int .i64):=by
 split at hT
 ·rename_i kt e' he
  simp only [Bool.and_eq_true,beq_iff_eq] at hT
  obtain ⟨rfl,h2⟩:=hT
  split at h2
  ·rename_i hkt; exact ⟨kt,he,hkt⟩
  ·cases h2
 ·cases hT
theorem c3s {w:World} {M:BS} {Q:QR} {x y:AV} {u v:Value} (h1:R w M x noQ noB u) (h2:R w M y noQ noB v):R w M (.tup [x,y]) Q noB (.tuple #[u,v]):=by
 simp only [R,RL]
 exact ⟨_,rfl,u,[v],rfl,noB,noB,fun _ h=>h,fun _ h=>h,fun _ h=>h.elim,h1,v,[],rfl,noB,noB,fun _ h=>h,fun _ h=>h,fun _ h=>h.elim,h2,rfl⟩
theorem b86 (h:Sim E N st a w val ow) {T e:TypeId} {zs:List AV} {x k:X} (ho:o.op= .lookup T x.op k.op true) (hd:∀ d,o.dst=some d->d < N) (hok:a3m P N (.mget T e zs x k)=true)
  (hr:(a0w G N o.dst (.mget T e zs x k)).run st=some (u,st')):Done E N P o a w st':=by
 simp only [a3m,Bool.and_eq_true] at hok
 obtain ⟨⟨⟨⟨hx,hk⟩,hz⟩,hag⟩,hT⟩:=hok
 obtain ⟨kt,hT1,hT2⟩:=d4c hT
 obtain ⟨i,z,hi,hz0,hzv⟩:=a4u hz
 obtain ⟨hzr,hzc⟩:=a6s (w:=w) (M:=Mo E w ow) hzv
 obtain ⟨zarr,rfl⟩:∃ arr,z= .agg arr:=by
  simp only [b8l,hi,hz0] at hag
  split at hag
  ·rename_i arr harr; injection harr with harr; exact ⟨arr,harr⟩
  ·cases hag
 simp only [a0w] at hr
 obtain ⟨⟨t,q,v0,keys,vals⟩,st1,h1,h2⟩:=a0a hr
 obtain ⟨rfl,rfl,hnode,hval⟩:=b2r h hx h1
 obtain ⟨n,st2,h3,h4⟩:=a0a h2
 obtain ⟨rfl,hkv⟩:=b2m h hk h3
 obtain ⟨b,es,ck,g1,g2,g3,g4,_⟩:=h.mapw hnode
 rw [g1] at hval
 injection hval with hval
 have hkey:IsKey (.int .i64) (.int .i64 n):=by simp [IsKey]
 have hrun:∀ (r:Option (Nat×Value)) (v:Value) (ok:Bool),Instr.findNow (.int .i64) (.int .i64 n) es.toList 0=some r->(match r with | some p=>v=p.2/\ok=true | none=>v= .agg zarr/\ok=false)->(execOp a.eval o).run P w= .ok (.value (.tuple #[v,.bool ok])) w:=by
  intro r v ok hf hv
  simp only [execOp,ho,hkv,<-hval]
  refine a3c ?_
  have hF:=run_findKey (w:=w) hT2 hf
  have hC:=fun b=>run_checkKey (w:=w) hT2 hkey b 9999
  have hO:=Go.MapKept.run_getObj_map (P:=P) g2
  have hU:(underlying T).run P w= .ok (.map kt e) w:=run_underlying hT1 w
  have hZ:(zeroValue e).run P w= .ok (.agg zarr) w:=by simp [zeroValue,typeInfo,hi,hz0]
  unfold Instr.lookup
  simp only [Sem.run_bind,hU,Result.andThen_ok,hO,Sem.run_pure,hC,hF]
  cases r with
  | none=>
   obtain ⟨rfl,rfl⟩:=hv
   simp [hZ]
  | some p=>
   obtain ⟨rfl,rfl⟩:=hv
   simp
 rcases b0i es.toList keys vals 0 n g3 g4 with ⟨f1,f2⟩ | ⟨v,j,e0,f1,f2,f3,f4,f5⟩
 ·rw [f1] at h4
  obtain ⟨_,st3,h5,h6⟩:=a0a h4
  obtain ⟨hn,rfl⟩:=a0b h5
  obtain ⟨d0,hd0,rfl⟩:=a0e h6
  refine Done.of_fin hd0 (hd d0 hd0) (hrun none (.agg zarr) false f2 ⟨rfl,rfl⟩) h (c3s ?_ (by simp only [R])) rfl
  simp only [R]
  exact ⟨zarr,rfl,hzc,a1a (fun _ h=>h) (fun _ _=>rfl) zs (fun _ _ h=>h.elim) (fun _ h=>h) (fun _ _=>rfl) hzr⟩
 ·rw [f1] at h4
  obtain ⟨_,st3,h5,h6⟩:=a0a h4
  obtain ⟨hn,rfl⟩:=a0b h5
  obtain ⟨d0,hd0,rfl⟩:=a0e h6
  refine Done.of_fin hd0 (hd d0 hd0) (hrun (some (0+j,e0.val)) e0.val true f2 ⟨rfl,rfl⟩) h (c3s ?_ (by simp only [R])) rfl
  exact a0t (fun _ h=>h) (fun _ _=>rfl) v (fun _ _ h=>h.elim) (fun _ h=>h) (fun _ _=>rfl) f5
theorem c29 {M:BS} {Q:QR} {F:BS} {v:AV} {u:Value} (h:b03 v=true) (hr:R w M v Q F u):R w M v noQ noB u:=by
 have one:∀ {v:AV} {F:BS} {u:Value} {Q:QR},a3o v=true->R w M v Q F u->R w M v noQ noB u:=fun {v F u Q} h hr=>by
  cases v<;>simp only [a3o,Bool.false_eq_true] at h
  all_goals (simp only [R] at hr ⊢; exact hr)
 cases v with
 | agg ks=>
  simp only [b03,List.all_eq_true] at h
  simp only [R] at hr ⊢
  obtain ⟨arr,hv,hc,hr⟩:=hr
  refine ⟨arr,hv,hc,?_⟩
  generalize arr.toList=vs at hr
  clear hv hc
  induction ks generalizing vs F with
  | nil=>simp only [RL] at hr ⊢; exact hr
  | cons k ks ih=>
   simp only [RL] at hr ⊢
   obtain ⟨v,vs',rfl,F1,F2,f1,f2,fd,h1,h2⟩:=hr
   exact ⟨v,vs',rfl,noB,noB,fun _ h=>h,fun _ h=>h,fun _ h=>h.elim,one (h k (by simp)) h1,ih (fun x hx=>h x (by simp [hx])) _ h2⟩
 | _=>first | exact one h hr | simp [b03,a3o] at h
theorem b87 (h:Sim E N st a w val ow) {T e:TypeId} {x k v:X} (ho:o.op= .mapUpdate T x.op k.op v.op) (hok:a3m P N (.mset T e x k v)=true)
  (hr:(a0w G N o.dst (.mset T e x k v)).run st=some (u,st')):Done E N P o a w st':=by
 simp only [a3m,Bool.and_eq_true] at hok
 obtain ⟨⟨⟨hx,hk⟩,hv⟩,hT⟩:=hok
 obtain ⟨kt,hT1,hT2⟩:=d4c hT
 simp only [a0w] at hr
 obtain ⟨_,st0,h0,h0'⟩:=a0a hr
 obtain ⟨hdn,rfl⟩:=a0b h0
 have hdn':o.dst=none:=by cases hq:o.dst<;>simp_all
 obtain ⟨⟨t,q,v0,keys,vals⟩,st1,h1,h2⟩:=a0a h0'
 obtain ⟨rfl,rfl,hnode,hval⟩:=b2r h hx h1
 obtain ⟨n,st2,h3,h4⟩:=a0a h2
 obtain ⟨rfl,hkv⟩:=b2m h hk h3
 obtain ⟨⟨xv,e1⟩,st3,h5,h6⟩:=a0a h4
 obtain ⟨rfl,hR,ht⟩:=a0i h hv h5
 obtain ⟨_,st4,h7,h8⟩:=a0a h6
 obtain ⟨hg,rfl⟩:=a0b h7
 simp only [Bool.and_eq_true,decide_eq_true_eq] at hg
 have:=a1c h8
 subst this
 have hxv:=c29 hg.1 hR
 obtain ⟨b,es,ck,g1,g2,g3,g4,fill⟩:=h.mapw hnode
 rw [g1] at hval
 injection hval with hval
 have hkey:IsKey (.int .i64) (.int .i64 n):=by simp [IsKey]
 have hC:=fun b=>run_checkKey (w:=w) hT2 hkey b 9999
 have hO:=Go.MapKept.run_getObj_map (P:=P) g2
 have hU:(underlying T).run P w= .ok (.map kt e) w:=run_underlying hT1 w
 have fin:∀ es' ck',(Instr.mapUpdate T (.map (some b)) (.int .i64 n) (a.eval v.op)).run P w= .ok () { w with heap:=w.heap.setIfInBounds b (.map es' ck') }->
   es'.toList.map (·.key)=(a28 keys vals n xv).1.map (fun k=>Value.int .i64 k)->RL w (Mo E w ow) (a28 keys vals n xv).2 noQ noB (es'.toList.map (·.val))->Done E N P o a w (st4.set t (a0h (st4.s t) q (.mp (a28 keys vals n xv).1 (a28 keys vals n xv).2))):=by
  intro es' ck' hrun hk' hr'
  refine ⟨.skip,{ w with heap:=w.heap.setIfInBounds b (.map es' ck') },val,ow,?_,.inr ⟨rfl,?_⟩⟩
  ·simp only [execOp,ho,hkv,<-hval]
   rw [Sem.run_bind,hrun]; rfl
  ·rw [hdn']
   exact fill _ es' ck' _ _ rfl rfl rfl rfl hk' hr'
 rcases b0i es.toList keys vals 0 n g3 g4 with ⟨f1,f2⟩ | ⟨v1,j,e0,f1,f2,f3,f4,f5⟩
 ·have hF:=run_findKey (w:=w) hT2 f2
  have hS:=Go.MapKept.run_setObj_map (P:=P) (.map (es.push { key:= .int .i64 n,val:=a.eval v.op,born:=ck }) (ck+1)) g2
  obtain ⟨q1,q2⟩:=(b3h es.toList keys vals n xv (a.eval v.op) g3 g4 hxv).1 f1 { key:= .int .i64 n,val:=a.eval v.op,born:=ck } rfl rfl
  refine fin (es.push { key:= .int .i64 n,val:=a.eval v.op,born:=ck }) (ck+1) ?_ (by simpa using q1) (by simpa using q2)
  unfold Instr.mapUpdate
  simp only [Sem.run_bind,hU,Result.andThen_ok,hO,hC,hF]
  exact hS
 ·have hF:=run_findKey (w:=w) hT2 f2
  have hj:es[j]? =some e0:=by simpa using f3
  have hlt:j < es.size:=(Array.getElem?_eq_some_iff.1 hj).1
  have hge:es[j]=e0:=(Array.getElem?_eq_some_iff.1 hj).2
  have hS:=Go.MapKept.run_setObj_map (P:=P) (.map (es.modify j fun e=>{ e with key:= .int .i64 n,val:=a.eval v.op }) ck) g2
  have hK:=run_keyThatStays (P:=P) (w:=w) hkey
  obtain ⟨q1,q2⟩:=(b3h es.toList keys vals n xv (a.eval v.op) g3 g4 hxv).2 v1 (0+j) e0.val f1 f2 { e0 with key:= .int .i64 n,val:=a.eval v.op } rfl rfl
  have hmod:(es.modify j fun e=>{ e with key:= .int .i64 n,val:=a.eval v.op }).toList=es.toList.set (0+j) { e0 with key:= .int .i64 n,val:=a.eval v.op }:=by
   apply List.ext_getElem?
   intro m
   rw [Nat.zero_add,List.getElem?_set,Array.getElem?_toList,Array.getElem?_modify]
   by_cases hm:j=m
   ·subst hm; simp [hj,hlt,hge]
   ·simp [hm]
  refine fin (es.modify j fun e=>{ e with key:= .int .i64 n,val:=a.eval v.op }) ck ?_ (by rw [hmod]; exact q1) (by rw [hmod]; exact q2)
  unfold Instr.mapUpdate
  simp only [Sem.run_bind,hU,Result.andThen_ok,hO,hC,hF,Nat.zero_add,hj,Option.map_some,Option.getD_some,f4,hK]
  exact hS
theorem b0w {t:Nat} {q:List Nat}:∀ (l:List AV) (o:Nat) {vs:List Value} {F:BS} {l':List AV} {M:BS},RL w M l noQ F vs->(∀ i v,vs[i]? =some v->a06 w (val t) (q++[o+i])=some v)->(∀ i k,l[i]? =some k->a0c (st.s t) (q++[o+i])=some k)->
  b11 t q (st.ep t) o l=some l'->RL w M l' (QS w st val) noB vs
 | [],o,vs,F,l',M,hr,hv,hn,hl=>by
  simp only [b11,Option.some.injEq] at hl
  subst hl
  simp only [RL] at hr ⊢
  exact hr
 | k::l,o,vs,F,l',M,hr,hv,hn,hl=>by
  simp only [RL] at hr
  obtain ⟨v,vs',rfl,F1,F2,f1,f2,fd,h1,h2⟩:=hr
  have hv0:a06 w (val t) (q++[o])=some v:=by simpa using hv 0 v rfl
  have hn0:a0c (st.s t) (q++[o])=some k:=by simpa using hn 0 k rfl
  simp only [b11] at hl
  cases ha:c20 t q (st.ep t) o k with
  | none=>rw [ha] at hl; cases hl
  | some a1=>
   cases hb:b11 t q (st.ep t) (o+1) l with
   | none=>rw [ha,hb] at hl; cases hl
   | some b1=>
    rw [ha,hb] at hl
    simp only [Option.some.injEq] at hl
    subst hl
    have ih:=b0w l (o+1) h2 (fun i v hi=>by rw [show o+1+i=o+(i+1) by omega]; exact hv (i+1) v (by simpa using hi)) (fun i k hi=>by rw [show o+1+i=o+(i+1) by omega]; exact hn (i+1) k (by simpa using hi)) hb
    simp only [RL]
    refine ⟨v,vs',rfl,noB,noB,fun _ h=>h,fun _ h=>h,fun _ h=>h.elim,?_,ih⟩
    have plain:∀ k:AV,R w M k noQ F1 v->(if a0j k&&a3o k then some k else none)=some a1->R w M a1 (QS w st val) noB v:=fun k hk hs=>by
     split at hs
     ·rename_i hc
      simp only [Bool.and_eq_true] at hc
      injection hs with hs
      subst hs
      exact a0t (fun _ h=>h) (fun _ _=>rfl) k (fun _ _ h=>h.elim) (fun _ h=>h) (fun _ _=>rfl) (a1d k hc.1 hk)
     ·cases hs
    cases k with
    | own sz n ks=>
     simp only [c20,Option.some.injEq] at ha
     subst ha
     have hform:∃ a0 c0,v= .slice a0 n c0:=by
      simp only [R] at h1
      rcases h1 with ⟨h0,_,a0,hv⟩ | ⟨b,c,cur,T,fz,hv,_⟩
      ·exact ⟨a0,0,by rw [h0]; exact hv⟩
      ·exact ⟨_,c,hv⟩
     obtain ⟨a0,c0,rfl⟩:=hform
     simp only [R,QS]
     refine ⟨Nat.le_refl _,fun _ sz' n0 ks2 hk2 _=> ?_,fun _ keys vals hk2=>by rw [hn0] at hk2; cases hk2⟩
     rw [hn0] at hk2
     injection hk2 with hk2
     injection hk2 with e1 e2 e3
     subst e1 e2 e3
     refine ⟨a0,c0,hv0,?_⟩
     rw [Nat.zero_mul,a00]
     simp
    | _=>exact plain _ h1 ha
theorem b81 (h:Sim E N st a w val ow) {T sz:Nat} {x:X} (ho:o.op= .load T x.op) (hd:∀ d,o.dst=some d->d < N) (hok:a3m P N (.lend T sz x)=true)
  (hr:(a0w G N o.dst (.lend T sz x)).run st=some (u,st')):Done E N P o a w st':=by
 simp only [a3m,Bool.and_eq_true,beq_iff_eq] at hok
 obtain ⟨⟨hx,hag⟩,hsz⟩:=hok
 simp only [a0w] at hr
 obtain ⟨⟨t,q,o1,v1,e1,ks⟩,st1,h1,h2⟩:=a0a hr
 obtain ⟨rfl,rfl,rfl,hrow,hlt,u1,b,g1,g2,g3,g4⟩:=a3u h hx h1
 obtain ⟨_,st2,h3,h4⟩:=a0a h2
 obtain ⟨hg,rfl⟩:=a0b h3
 simp only [Bool.and_eq_true,decide_eq_true_eq] at hg
 obtain ⟨l,st3,h5,h6⟩:=a0a h4
 obtain ⟨hl,rfl⟩:=a0r h5
 obtain ⟨d0,hd0,rfl⟩:=a0e h6
 obtain ⟨vs,F,c1,c2,c3,c4⟩:=h.cells hrow hlt g3 sz hg.1
 have hrun:=a8x (P:=P) ho hag hsz g4 c1 c4
 refine Done.of_fin hd0 (hd d0 hd0) hrun h ?_ rfl
 simp only [R]
 refine ⟨_,rfl,by simpa using c2,?_⟩
 have:=b0w (st:=st3) (val:=val) (t:=t) (q:=q) _ o1 c3 (fun i v hi=>by rw [a7s q g1 g2]; exact c4 i v hi) (fun i k hi=>by
  have hi':ks[o1+i]? =some k:=by
   rw [List.getElem?_take,List.getElem?_drop] at hi
   split at hi
   ·exact hi
   ·cases hi
  exact a45 q hrow hi') hl
 simpa using this
end
section
variable {E:Env} {N:Nat} {st:St} {a:Act} {w:World} {val:Nat->Value} {ow:Nat->Option Nat}
variable {P:Program} {o:Oper} {u:Unit} {st':St} {G:GG}
theorem c0g (h:Sim E N st a w val ow) (hG:E.G=G) {b:BinOp} {T tp te:Nat} {x y:X} {yT:Nat} (ho:o.op= .binOp b T x.op y.op yT) (hd:∀ d,o.dst=some d->d < N) (hok:a3m P N (.eqs b T tp te x y yT)=true)
  (hr:(a0w G N o.dst (.eqs b T tp te x y yT)).run st=some (u,st')):Done E N P o a w st':=by
 simp only [a3m,Bool.and_eq_true] at hok
 obtain ⟨⟨⟨⟨⟨hx,hy⟩,hT⟩,htp⟩,hcomp⟩,hte⟩:=hok
 obtain ⟨ms,hi⟩:∃ ms,P.underlying T=some (.interface ms):=by
  split at hT
  ·rename_i ms hm; exact ⟨ms,hm⟩
  ·cases hT
 have hp:P.underlying tp=some (.pointer te):=by
  split at htp
  ·rename_i e he; rw [he]; simp at htp; rw [htp]
  ·cases htp
 obtain ⟨i,hinfo,hc⟩:∃ i,P.info? tp=some i/\i.comparable=true:=by
  split at hcomp
  ·rename_i i hi; exact ⟨i,hi,hcomp⟩
  ·cases hcomp
 obtain ⟨j,hte',hsz⟩:∃ j,P.info? te=some j/\j.size≠0:=by
  split at hte
  ·rename_i i hi; exact ⟨i,hi,by simpa using hte⟩
  ·cases hte
 simp only [a0w] at hr
 obtain ⟨v1,st1,h1,h2⟩:=a0a hr
 obtain ⟨rfl,hv1⟩:=a18 h hx h1
 obtain ⟨v2,st2,h3,h4⟩:=a0a h2
 obtain ⟨rfl,hv2⟩:=a18 h hy h3
 split at h4
 ·rename_i t1 c1 t2 c2
  obtain ⟨_,st3,h5,h6⟩:=a0a h4
  obtain ⟨hg,rfl⟩:=a0b h5
  simp only [Bool.and_eq_true,beq_iff_eq,Bool.or_eq_true,decide_eq_true_eq] at hg
  obtain ⟨⟨ht1,ht2⟩,hg⟩:=hg
  rw [ht1] at hv1
  rw [ht2] at hv2
  have heq:(Op.equal T (.iface tp (.pointer (some c1))) (.iface tp (.pointer (some c2)))).run P w= .ok (decide (c1=c2)) w:=by
   by_cases hcc:c1=c2
   ·subst hcc
    have:=run_equalIn_iface_ptr_same (P:=P) w 9998 c1 hi hp hinfo hc hte'
    simp only [decide_true]
    exact this
   ·obtain ⟨g1,g2⟩:=hg.resolve_left hcc
    obtain ⟨u1,hu1⟩:=Option.isSome_iff_exists.1 g1
    obtain ⟨u2,hu2⟩:=Option.isSome_iff_exists.1 g2
    obtain ⟨cur1,T1,k1,_⟩:=(h.glob c1.block u1 (.inl (by rw [hG]; exact hu1))).plain (by rw [hG]; exact hu1)
    obtain ⟨cur2,T2,k2,_⟩:=(h.glob c2.block u2 (.inl (by rw [hG]; exact hu2))).plain (by rw [hG]; exact hu2)
    have:=run_equalIn_iface_ptr_other (P:=P) w 9998 (a:=c1) (b:=c2) hi hp hinfo hc hte' hsz hcc k1 k2
    rw [show decide (c1=c2)=false by simpa using hcc]
    exact this
  have hrun:∀ r,((b= .eql/\r=decide (c1=c2))\/(b= .neq/\r= !decide (c1=c2)))->(execOp a.eval o).run P w= .ok (.value (.bool r)) w:=fun r hr=>by
   simp only [execOp,ho,hv1,hv2]
   refine a3c ?_
   rcases hr with ⟨rfl,rfl⟩ | ⟨rfl,rfl⟩
   ·have hg:(eqGuard .eql T x.op y.op (.iface tp (.pointer (some c1))) (.iface tp (.pointer (some c2)))).run P w= .ok () w:=rfl
    rw [Sem.run_bind,hg]
    simp only [Result.andThen_ok,binOp,Sem.run_bind,heq]
    rfl
   ·have hg:(eqGuard .neq T x.op y.op (.iface tp (.pointer (some c1))) (.iface tp (.pointer (some c2)))).run P w= .ok () w:=rfl
    rw [Sem.run_bind,hg]
    simp only [Result.andThen_ok,binOp,Sem.run_bind,heq]
    rfl
  split at h6
  ·obtain ⟨d0,hd0,rfl⟩:=a0e h6
   exact Done.of_fin hd0 (hd d0 hd0) (hrun _ (.inl ⟨rfl,rfl⟩)) h (by simp only [R]) rfl
  ·obtain ⟨d0,hd0,rfl⟩:=a0e h6
   exact Done.of_fin hd0 (hd d0 hd0) (hrun _ (.inr ⟨rfl,rfl⟩)) h (by simp only [R]) rfl
  ·simp [Ev.run] at h6
 ·simp [Ev.run] at h4
theorem c0w (h:Sim E N st a w val ow) {T s:Nat} {x:X} (ho:o.op= .load T x.op) (hd:∀ d,o.dst=some d->d < N) (hok:a3m P N (.lmv T s x)=true)
  (hr:(a0w G N o.dst (.lmv T s x)).run st=some (u,st')):Done E N P o a w st':=by
 simp only [a3m,Bool.and_eq_true,beq_iff_eq] at hok
 obtain ⟨⟨hx,hag⟩,hsz⟩:=hok
 simp only [a0w] at hr
 obtain ⟨⟨t,q,o1⟩,st1,h1,h2⟩:=a0a hr
 obtain ⟨rfl,hp⟩:=b0n h hx h1
 simp only at h2
 obtain ⟨r2,st2,h3,h4⟩:=a0a h2
 obtain ⟨rfl,rfl⟩:=a09 h3
 simp only at h4
 cases hv:st2.s t<;>rw [hv] at h4<;>simp only [Ev.run_fail,reduceCtorEq] at h4
 case var ks=>
  obtain ⟨_,st3,h5,h6⟩:=a0a h4
  obtain ⟨h7,rfl⟩:=a0b h5
  simp only [Bool.and_eq_true,beq_iff_eq,decide_eq_true_eq,List.isEmpty_iff] at h7
  obtain ⟨⟨⟨⟨rfl,rfl⟩,htN⟩,hl⟩,hpos⟩:=h7
  obtain ⟨_,st4,h8,h9⟩:=a0a h6
  have:=a1c h8
  subst this
  have hne:ks≠[]:=by intro he; subst he; simp at hl; omega
  obtain ⟨u1,b,g1,g2,g3⟩:=hp (.var ks) ks (by simp [a0c,hv]) rfl hne
  simp only [a06,Option.some.injEq] at g1
  subst g1
  have hs:=h.slots t
  rw [hv] at hs
  simp only [R] at hs
  obtain ⟨b',cur,T',fz,e1,e2,e3,e4,e5,e6⟩:=hs
  have hb:b'=b:=by rw [e1] at g2; simpa [a8f] using g2
  subst hb
  have hlen:=a0m e6
  have hcl:cur.toList.length=s:=by omega
  have hrun:=a8x (P:=P) (w:=w) (vs:=cur.toList) ho hag hsz g3 hcl (fun i v hiv=>by
   rw [Nat.zero_add]
   have hc:w.cell? ⟨b',i,none⟩=cur[i]? :=by simp only [World.cell?,e3]; simp
   rw [hc]
   simpa using hiv)
  obtain ⟨ow',hT⟩:=h.takeAs (t:=t) (j:=N) (q:=[]) (k:= .var ks) (av:= .agg ks) (v:= .agg cur) (by simp [a0c,hv]) (Nat.le_refl N) (by omega) (fun u F Q hu hru=>by
   simp only [a06,Option.some.injEq] at hu
   subst hu
   simp only [R] at hru ⊢
   obtain ⟨b2,cur2,T2,fz2,f1,f2,f3,f4,f5,f6⟩:=hru
   have hb2:b2=b':=by rw [e1] at f1; simpa using f1.symm
   subst hb2
   rw [e3] at f3
   simp only [Option.some.injEq,Obj.cells.injEq] at f3
   obtain ⟨rfl,_,_⟩:=f3
   exact ⟨cur,rfl,f5,a1r (fun x hx=>hx.1) f6⟩)
  simp only [a0h] at hT
  have harr:cur.toList.toArray=cur:=by simp
  rw [harr] at hrun
  exact Done.thru (v:= .agg cur) hd hrun hT (by simp [a0u]) h9
theorem c0j (h:Sim E N st a w val ow) {T off f:Nat} {x:X} (ho:o.op= .field T x.op f) (hd:∀ d,o.dst=some d->d < N) (hok:a3m P N (.fld T off x f)=true)
  (hr:(a0w G N o.dst (.fld T off x f)).run st=some (u,st')):Done E N P o a w st':=by
 simp only [a3m,Bool.and_eq_true] at hok
 obtain ⟨hx,hf⟩:=hok
 simp only [a0w] at hr
 obtain ⟨r,st1,h1,h2⟩:=a0a hr
 obtain ⟨rfl,hR,ht⟩:=a0i h hx h1
 obtain ⟨v,e⟩:=r
 simp only at h2 hR
 cases v<;>simp only [Ev.run_fail,reduceCtorEq] at h2
 rename_i ks
 obtain ⟨k,st2,h3,h4⟩:=a0a h2
 obtain ⟨hk,rfl⟩:=a0r h3
 obtain ⟨_,st3,h5,h6⟩:=a0a h4
 obtain ⟨hn,rfl⟩:=a0b h5
 obtain ⟨d0,hd0,rfl⟩:=a0e h6
 simp only [R] at hR
 obtain ⟨arr,hv,hc1,hrl⟩:=hR
 obtain ⟨v0,hv0,F1,F2,f1,f2,f3,hr0,fill⟩:=a5g hrl hk
 have hget:arr[off]? =some v0:=by simpa using hv0
 have hrun:(execOp a.eval o).run P w= .ok (.value v0) w:=by
  split at hf
  ·rename_i fs hu
   split at hf
   ·rename_i fl hfl
    simp only [Bool.and_eq_true,beq_iff_eq] at hf
    obtain ⟨ho1,ha⟩:=hf
    have hagg:(isAgg fl.type).run P w= .ok false w:=by
     unfold b2g at ha
     split at ha<;>simp only [Option.some.injEq,reduceCtorEq] at ha
     rename_i td hn1 hn2 hu2
     unfold isAgg
     rw [Sem.run_bind,run_underlying hu2]
     cases td<;>first
      | rfl
      | exact (hn1 _ rfl).elim
      | exact (hn2 _ _ rfl).elim
      | exact (hn1 _ _ rfl).elim
      | exact (hn2 _ rfl).elim
    simp only [execOp,ho,hv]
    refine a3c ?_
    simp [Instr.field,run_underlying hu,hfl,asAgg,part,hagg,Result.andThen,ho1,hget]
   ·cases hf
  ·cases hf
 exact Done.of_fin hd0 (hd d0 hd0) hrun h (a0t (fun _ h=>h) (fun _ _=>rfl) _ (fun _ _ h=>h.elim) (fun _ h=>h) (fun _ _=>rfl) (a1d _ hn hr0)) (a5j hn)
theorem c27 (h:Sim E N st a w val ow) (hG:E.G=G) {iop:IOp} (ho:o.op=erase iop) (hd:∀ d,o.dst=some d->d < N) (hok:a3m P N iop=true)
  (hr:(a0w G N o.dst iop).run st=some (u,st')):Done E N P o a w st':=by
 cases iop with
 | mv x=>exact b8a h ho hd hok hr
 | asg x=>exact b4q h (.inl ho) hd hok hr
 | mva x=>exact b4q h (.inr ho) hd hok hr
 | mvf x=>exact b8a h ho hd hok hr
 | pick c x y=>simp only [a3m,Bool.and_eq_true] at hok; exact b9g h ho hd hok.1.1 hok.1.2 hok.2 hr
 | alloc T zs=>exact b6f h ho hd hok hr
 | box T sz x=>exact b9z h ho hd hok hr
 | build T zs parts=>exact b6j h ho hd hok hr
 | bslice T e sz len zs parts=>exact b4t h ho hd hok hr
 | load T s x=>exact b84 h hG ho hd hok hr
 | lmv T s x=>exact c0w h ho hd hok hr
 | store T s x y=>exact b1i h ho hok hr
 | stf T s x y=>exact c1l h ho hok hr
 | nilck x=>exact b7a h ho hd hok hr
 | bin b T kd x y yT=>exact b9x h ho hd hok hr
 | un b T x=>exact c3l h ho hd hok hr
 | eqs b T tp te x y yT=>exact c0g h hG ho hd hok hr
 | conv s d k x=>cases k with
  | int k=>exact b3c h ho hd hok hr
  | str=>exact b3d h ho hd hok hr
  | keep=>exact b1z h ho hd hok hr
 | mki T x=>exact c0z h ho hd hok hr
 | mkf f fs cs=>exact b5f h ho hd hok hr
 | mkz f fs cs=>exact c01 h ho hd hok hr
 | mks T e sz by_ zs l c=>exact c00 h ho hd hok hr
 | slice T sz x lo hi mx=>exact b7o h ho hd hok hr
 | faddr T off x f=>exact b6p h ho hd hok hr
 | aaddr T off x k=>exact b6d h ho hd hok hr
 | iaddr T sz x i=>exact b6y h ho hd hok hr
 | aaddrv T sz n x i=>exact b4m h ho hd hok hr
 | ext x i=>exact c0h h ho hd hok hr
 | tas x xT T zs=>exact c1p h ho hd hok hr
 | len T s x=>exact c0u h ho hd hok hr
 | app T e sz by_ x y=>exact b9v h ho hd hok hr
 | mm mx ts xs=>exact c23 h ho hd hok hr
 | mkmap T=>exact b69 h ho hd hr
 | mget T e zs x k=>exact b86 h ho hd hok hr
 | mset T e x k v=>exact b87 h ho hok hr
 | lend T s x=>exact b81 h ho hd hok hr
 | fld T off x f=>exact c0j h ho hd hok hr
end
open Classical
def noRef:AV->Bool
 | .ref _ _ _ _=>false
 | .bor _ _ _ _ _=>false
 | .fn _ fs cs=>a3b.noRefL fs&&a3b.noRefL cs
 | .loan _=>false
 | _=>true
theorem a44 {w:World} {M:BS} {av:AV} {Q:QR} {F:BS} {v:Value} (h:noRef av=true) (hr:R w M av Q F v):R w M av noQ F v:=by
 cases av with
 | ref=>simp [noRef] at h
 | bor=>simp [noRef] at h
 | loan=>simp [noRef] at h
 | fn f fs cs=>
  simp only [noRef,Bool.and_eq_true] at h
  simp only [R] at hr ⊢
  obtain ⟨a1,a2,hv,h1,h2⟩:=hr
  exact ⟨a1,a2,hv,a8z h.1 h1,a8z h.2 h2⟩
 | _=>simp only [R] at hr ⊢; try exact hr
def a2y (x:X) (j:Nat) (v:AV):Ev Unit:=match x with
 | .t t=>if a0j v then a2a j v else do a2a t .dead; a2a j v
 | _=>a2a j v
def a2l (x:X) (j:Nat) (v:AV):Ev Unit:=match x with
 | .t t=>if a0j v then a2a j v else do a9f t (frz v); a2a j (frz v)
 | _=>a2a j (frz v)
def b6w (N:Nat) (x:X) (j:Nat):Ev Unit:=do
 let r<-a1k x
 match r.1 with
 | .dead=> .fail
 | .bor t q lo n e=>do
  let r2<-a9g t
  a0f (e==r2.2&&lo==0&&decide (t < N))
  let k<-a2r (a0c r2.1 q)
  match k with
  | .own sz n0 ks=>do
   a0f (decide (n<=n0))
   a9f t (a0h r2.1 q .dead)
   a2a j (.own sz n (ks.take (n*sz)))
  | _=> .fail
 | v=>do
  a0f (noRef v)
  a2y x j v
def b47:List AV->Option Nat
 | []=>none
 | .bor t _ _ _ _::_=>some t
 | _::ks=>b47 ks
def a70 (N t0:Nat):List AV->Ev (List AV)
 | []=>pure []
 | .bor t q lo n e::ks=>do
  a0f (t==t0)
  let r2<-a9g t0
  a0f (e==r2.2&&decide (t0 < N))
  let k<-a2r (a0c r2.1 q)
  match k with
  | .own sz n0 k2=>do
   a0f (decide (lo+n<=n0))
   a9f t0 (a0h r2.1 q (frz k))
   let l<-a70 N t0 ks
   pure (.sl n (((a1b k2).drop (lo*sz)).take (n*sz))::l)
  | _=> .fail
 | k::ks=>do
  a0f (a3o k)
  let l<-a70 N t0 ks
  pure (k::l)
def b3x (N:Nat) (x:X) (j:Nat):Ev Unit:=do
 let r<-a1k x
 match r.1 with
 | .dead=> .fail
 | .bor t q lo n e=>do
  let r2<-a9g t
  a0f (e==r2.2&&decide (t < N))
  let k<-a2r (a0c r2.1 q)
  match k with
  | .own sz n0 ks=>do
   a0f (decide (lo+n<=n0))
   a9f t (a0h r2.1 q (frz k))
   a2a j (.sl n (((a1b ks).drop (lo*sz)).take (n*sz)))
  | _=> .fail
 | .loan ks=>do
  let t<-a2r (b47 ks)
  let l<-a70 N t ks
  a2a j (.agg l)
 | v=>do
  a0f (noRef v)
  a2l x j v
def a4h (N:Nat):Nat->List (Bool×X)->Ev Unit
 | _,[]=>pure ()
 | j,(g,x)::xs=>(if g then b6w N x j else pure ():Ev Unit) >>=fun _=>a4h N (j+1) xs
def a2s (N:Nat):Nat->List (Bool×X)->Ev Unit
 | _,[]=>pure ()
 | j,(g,x)::xs=>(if g then pure () else b3x N x j:Ev Unit) >>=fun _=>a2s N (j+1) xs
section
variable {E:Env} {N:Nat} {a:Act} {w:World}
variable {u:Unit}
theorem b0z {v:AV} (h:noRef v=true):noRef (frz v)=true:=by cases v<;>simp_all [frz,noRef]
theorem b6x {st:St} {val:Nat->Value} {ow:Nat->Option Nat} (h:Sim E N st a w val ow) {x:X} {j:Nat} {st':St} (hx:okX N x=true) (hj:N<=j) (hr:(b6w N x j).run st=some (u,st')) :
  ∃ val' ow',Sim E N st' a w val' ow'/\Kept N j st st' val val'/\val' j=a.eval x.op/\noRef (st'.s j)=true:=by
 unfold b6w at hr
 obtain ⟨r,st1,h1,h2⟩:=a0a hr
 obtain ⟨rfl,hR,ht⟩:=a0i h hx h1
 obtain ⟨v,e⟩:=r
 simp only at h2 hR
 have move:∀ v:AV,R w (Mo E w ow) v (QS w st1 val) (fun b=>∃ t,x= .t t/\ow b=some t) (a.eval x.op)->(∀ t,x= .t t->st1.s t=v)->noRef v=true->
   (a2y x j v).run st1=some (u,st')->∃ val' ow',Sim E N st' a w val' ow'/\Kept N j st1 st' val val'/\val' j=a.eval x.op/\noRef (st'.s j)=true:=by
  intro v hR hv hnr hs
  have lone:R w (Mo E w ow) v noQ noB (a.eval x.op)->(a2a j v).run st1=some (u,st')->∃ val' ow',Sim E N st' a w val' ow'/\Kept N j st1 st' val val'/\val' j=a.eval x.op/\noRef (st'.s j)=true:=fun hR' hs=>by
   have:=a0g hs
   subst this
   exact ⟨_,_,h.layp (Q:=noQ) hj (fun _ _ h=>h.elim) (v:=a.eval x.op) hR',⟨fun t ht=>by simp [a0u,ht],fun t _ ht=>by simp [ht]⟩,by simp [a0u],by simpa using hnr⟩
  have lone2:(∀ t,x≠ .t t)->(a2a j v).run st1=some (u,st')->∃ val' ow',Sim E N st' a w val' ow'/\Kept N j st1 st' val val'/\val' j=a.eval x.op/\noRef (st'.s j)=true:=fun hxt hs=>
   lone (a44 hnr (a1l (fun b ⟨t,ht,_⟩=>absurd ht (hxt t)) hR)) hs
  cases x with
  | t t=>
   simp only [a2y] at hs
   split at hs
   ·rename_i hn
    exact lone (a44 hnr (a1d v hn hR)) hs
   ·obtain ⟨_,st2,h3,h4⟩:=a0a hs
    have:=a0g h3
    subst this
    have:=a0g h4
    subst this
    obtain ⟨h5,h6,h7⟩:=ht t rfl
    rw [a0y _ t (by simp [a0l])]
    refine ⟨_,_,h.pass (t:=t) (j:=j) (by omega) (av:=v) (v:=a.eval (X.t t).op) (fun hlt=>by omega) (fun Q hQ=> ?_),⟨fun u hu=>by simp [a0u,hu],fun u hu huj=> ?_⟩,by simp [a0u],by simpa using hnr⟩
    ·have:=h.slots t
     rw [hv t rfl,<-h7] at this
     exact a0t (fun _ h=>h) (fun _ _=>rfl) _ hQ (fun _ h=>h) (fun _ _=>rfl) this
    ·simp [huj,show u≠t by omega]
  | c v0=>exact lone2 (fun t he=>by cases he) hs
  | nl sz0=>exact lone2 (fun t he=>by cases he) hs
  | g n0=>exact lone2 (fun t he=>by cases he) hs
  | f n0=>exact lone2 (fun t he=>by cases he) hs
 have hv:∀ t,x= .t t->st1.s t=v:=fun t he=>by have:=(ht t he).1; injection this with h1 _; exact h1.symm
 cases v with
 | dead=>simp [Ev.run] at h2
 | bor t q lo n e1=>
  obtain ⟨r2,st2,h3,h4⟩:=a0a h2
  obtain ⟨rfl,rfl⟩:=a09 h3
  obtain ⟨_,st3,h5,h6⟩:=a0a h4
  obtain ⟨h7,rfl⟩:=a0b h5
  obtain ⟨k,st4,h8,h9⟩:=a0a h6
  obtain ⟨hk,rfl⟩:=a0r h8
  simp only [Bool.and_eq_true,beq_iff_eq,decide_eq_true_eq] at h7
  obtain ⟨⟨he,hlo⟩,htN⟩:=h7
  simp only at hk
  cases k<;>simp only [Ev.run_fail,reduceCtorEq] at h9
  case own sz n0 ks=>
   obtain ⟨_,st5,g1,g2⟩:=a0a h9
   obtain ⟨g3,rfl⟩:=a0b g1
   have hn:n<=n0:=by simpa using g3
   obtain ⟨_,st6,g4,g5⟩:=a0a g2
   have:=a1c g4
   subst this
   have:=a0g g5
   subst this
   simp only [R,QS] at hR
   subst hlo
   obtain ⟨a0,c0,hv0,hvx⟩:=hR.2.1 he sz n0 ks hk (by omega)
   have hvx':a.eval x.op= .slice a0 n c0:=by
    rw [hvx,Nat.zero_mul,a00]; simp
   obtain ⟨ow',hs⟩:=h.takeAs (j:=j) (av:= .own sz n (ks.take (n*sz))) (v:=a.eval x.op) hk hj (by omega) (fun u F Q hu hru=>by
    rw [hv0] at hu
    injection hu with hu
    rw [hvx']
    rw [<-hu] at hru
    exact a9j hru hn)
   refine ⟨_,ow',hs,⟨fun u hu=>by simp [a0u,hu],fun u hu huj=> ?_⟩,by simp [a0u],by simp [noRef]⟩
   simp [huj,show u≠t by omega]
 | _=>
  obtain ⟨_,st2,h3,h4⟩:=a0a h2
  obtain ⟨h5,rfl⟩:=a0b h3
  exact move _ hR hv h5 h4
theorem b9r {st:St} {val:Nat->Value} {t:Nat} {q:List Nat} {k:AV} (hk:a0c (st.s t) q=some k) :
  ∀ av v,QS w st val av v->QS w (st.set t (a0h (st.s t) q (frz k))) val av v:=fun av v h=>
 b24 (kl:=fun _ _=>false) (fun s q' _=>by
  by_cases hs:s=t
  ·subst hs
   refine Stab.like (Nat.le_refl _) (fun k' h1 h2=> ?_) rfl
   simp only [St.set_s,if_true] at h1
   exact a2t q hk (b8b k) h1 h2
  ·exact Stab.same rfl (by simp [hs]) rfl) av v h (fun _ _ _ _ _=>rfl) (fun _ _ _ _ _ _=>rfl)
theorem c26 {w:World} {M:BS} {av:AV} {Q:QR} {F:BS} {v:Value} (h:a3o av=true) (hr:R w M av Q F v):R w M av noQ noB v:=by
 cases av<;>simp only [a3o,reduceCtorEq,Bool.false_eq_true] at h<;>simp only [R] at hr ⊢<;>exact hr
theorem b6a {ow ow':Nat->Option Nat} (h:∀ b s,ow' b=some s->ow b=some s):∀ b,Mo E w ow b->Mo E w ow' b:=fun b hb=>by
 refine ⟨?_,hb.2⟩
 cases hc:ow' b with
 | none=>rfl
 | some s=>have:=h b s hc; rw [hb.1] at this; cases this
theorem a8i {t0:Nat} {val:Nat->Value}:∀ (ks:List AV) {st st':St} {ow:Nat->Option Nat} {vs:List Value} {l:List AV},Sim E N st a w val ow->RL w (Mo E w ow) ks (QS w st val) noB vs->(a70 N t0 ks).run st=some (l,st')->
  ∃ ow',Sim E N st' a w val ow'/\(∀ t,N<=t->st'.s t=st.s t)/\RL w (Mo E w ow') l noQ noB vs/\∀ b s,ow' b=some s->ow b=some s
 | [],st,st',ow,vs,l,h,hR,hr=>by
  simp only [a70,Ev.run_pure,Option.some.injEq,Prod.mk.injEq] at hr
  obtain ⟨rfl,rfl⟩:=hr
  simp only [RL] at hR
  exact ⟨ow,h,fun _ _=>rfl,by simp only [RL]; exact hR,fun _ _ h=>h⟩
 | k::ks,st,st',ow,vs,l,h,hR,hr=>by
  rw [RL] at hR
  obtain ⟨v,vs',rfl,F1,F2,_,_,_,h1,h2⟩:=hR
  have h2':RL w (Mo E w ow) ks (QS w st val) noB vs':=a1r (fun b hb=>by first | exact hb | exact (by assumption:∀ b,F2 b->noB b) b hb) h2
  have plain:a3o k=true->∀ l',(a70 N t0 ks).run st=some (l',st')->l=k::l'->
    ∃ ow',Sim E N st' a w val ow'/\(∀ t,N<=t->st'.s t=st.s t)/\RL w (Mo E w ow') l noQ noB (v::vs')/\∀ b s,ow' b=some s->ow b=some s:=by
   rintro hn l' hl rfl
   obtain ⟨ow',g1,g2,g3,g4⟩:=a8i ks h h2' hl
   refine ⟨ow',g1,g2,?_,g4⟩
   rw [RL]
   exact ⟨v,vs',rfl,noB,noB,fun _ h=>h,fun _ h=>h,fun _ h=>h.elim,a0t (b6a g4) (fun _ _=>rfl) _ (fun _ _ h=>h) (fun _ h=>h) (fun _ h=>h.elim) (c26 hn h1),g3⟩
  have plain2:(do a0f (a3o k); let l<-a70 N t0 ks; pure (k::l):Ev (List AV)).run st=some (l,st')->
    ∃ ow',Sim E N st' a w val ow'/\(∀ t,N<=t->st'.s t=st.s t)/\RL w (Mo E w ow') l noQ noB (v::vs')/\∀ b s,ow' b=some s->ow b=some s:=fun hr=>by
   obtain ⟨_,st1,h3,h4⟩:=a0a hr
   obtain ⟨h5,rfl⟩:=a0b h3
   obtain ⟨l',st2,h6,h7⟩:=a0a h4
   simp only [Ev.run_pure,Option.some.injEq,Prod.mk.injEq] at h7
   obtain ⟨h7,rfl⟩:=h7
   exact plain h5 l' h6 h7.symm
  cases k with
  | bor t q lo n e=>
   rw [a70] at hr
   obtain ⟨_,st1,h3,h4⟩:=a0a hr
   obtain ⟨h5,rfl⟩:=a0b h3
   have ht0:t=t0:=by simpa using h5
   subst ht0
   obtain ⟨r2,st2,h6,h7⟩:=a0a h4
   obtain ⟨rfl,rfl⟩:=a09 h6
   obtain ⟨_,st3,g1,g2⟩:=a0a h7
   obtain ⟨g3,rfl⟩:=a0b g1
   simp only [Bool.and_eq_true,beq_iff_eq,decide_eq_true_eq] at g3
   obtain ⟨he,htN⟩:=g3
   obtain ⟨k2,st4,h8,h9⟩:=a0a g2
   obtain ⟨hk,rfl⟩:=a0r h8
   simp only at hk
   cases k2<;>simp only [Ev.run_fail,reduceCtorEq] at h9
   case own sz n0 kk=>
    obtain ⟨_,st5,i1,i2⟩:=a0a h9
    obtain ⟨i3,rfl⟩:=a0b i1
    have hlo:lo+n<=n0:=by simpa using i3
    obtain ⟨_,st6,i4,i5⟩:=a0a i2
    have:=a1c i4
    subst this
    obtain ⟨l',st7,i6,i7⟩:=a0a i5
    simp only [Ev.run_pure,Option.some.injEq,Prod.mk.injEq] at i7
    obtain ⟨rfl,rfl⟩:=i7
    simp only [R,QS] at h1
    obtain ⟨a0,c0,hv0,hvx⟩:=h1.2.1 he sz n0 kk hk hlo
    obtain ⟨ow1,hf,how⟩:=h.freezeNodeX hk
    have hnode:=a02 q (k':=frz (.own sz n0 kk)) hk
    obtain ⟨u1,hu1,Fk,G,_,_,_,hr1,_⟩:=a32 q (by have:=hf.slots t; simp only [St.set_s,if_true] at this; exact this) hnode
    rw [hv0] at hu1
    injection hu1 with hu1
    have hlen:kk.length=n0*sz:=by
     obtain ⟨u2,hu2,Fk2,G2,_,_,_,hr2,_⟩:=a32 q (h.slots t) hk
     exact a3d hr2
    subst hu1
    have hsub:=a6c (w:=w) (M:=Mo E w ow1) (lo:=lo) (n:=n) (sz:=sz) (ks:=a1b kk) (n0:=n0) (a0:=a0) (c0:=c0) (Q:=_) (F:=Fk) (by rw [frz] at hr1; exact hr1) (by rw [a10,hlen]) hlo
    rw [<-hvx] at hsub
    have h3':RL w (Mo E w ow1) ks (QS w _ val) noB vs':=
     a1a (b6a how) (fun _ _=>rfl) _ (b9r hk) (fun _ h=>h) (fun _ h=>h.elim) h2'
    obtain ⟨ow',j1,j2,j3,j4⟩:=a8i ks hf h3' i6
    refine ⟨ow',j1,fun u hu=>(j2 u hu).trans (by simp [show u≠t by omega]),?_,fun b s hb=>how b s (j4 b s hb)⟩
    rw [RL]
    exact ⟨v,vs',rfl,noB,noB,fun _ h=>h,fun _ h=>h,fun _ h=>h.elim,a0t (b6a j4) (fun _ _=>rfl) _ (fun _ _ h=>h.elim) (fun _ h=>h.elim) (fun _ h=>h.elim) hsub,j3⟩
  | _=>rw [a70] at hr<;>first | exact plain2 hr | (intros; simp_all)
theorem b7e {st:St} {val:Nat->Value} {ow:Nat->Option Nat} (h:Sim E N st a w val ow) {x:X} {j:Nat} {st':St} (hx:okX N x=true) (hj:N<=j) (hr:(b3x N x j).run st=some (u,st')) :
  ∃ val' ow',Sim E N st' a w val' ow'/\Kept N j st st' val val'/\val' j=a.eval x.op/\noRef (st'.s j)=true/\∀ b s,ow' b=some s->ow b=some s:=by
 unfold b3x at hr
 obtain ⟨r,st1,h1,h2⟩:=a0a hr
 obtain ⟨rfl,hR,ht⟩:=a0i h hx h1
 obtain ⟨v,e⟩:=r
 simp only at h2 hR
 have move:∀ v:AV,R w (Mo E w ow) v (QS w st1 val) (fun b=>∃ t,x= .t t/\ow b=some t) (a.eval x.op)->(∀ t,x= .t t->st1.s t=v)->noRef v=true->
   (a2l x j v).run st1=some (u,st')->∃ val' ow',Sim E N st' a w val' ow'/\Kept N j st1 st' val val'/\val' j=a.eval x.op/\noRef (st'.s j)=true/\∀ b s,ow' b=some s->ow b=some s:=by
  intro v hR hv hnr hs
  have lone:∀ v:AV,noRef v=true->R w (Mo E w ow) v noQ noB (a.eval x.op)->(a2a j v).run st1=some (u,st')->∃ val' ow',Sim E N st' a w val' ow'/\Kept N j st1 st' val val'/\val' j=a.eval x.op/\noRef (st'.s j)=true/\∀ b s,ow' b=some s->ow b=some s:=fun v hnr hR' hs=>by
   have:=a0g hs
   subst this
   exact ⟨_,_,h.layp (Q:=noQ) hj (fun _ _ h=>h.elim) (v:=a.eval x.op) hR',⟨fun t ht=>by simp [a0u,ht],fun t _ ht=>by simp [ht]⟩,by simp [a0u],by simpa using hnr,fun _ _ h=>h⟩
  have lone2:(∀ t,x≠ .t t)->(a2a j (frz v)).run st1=some (u,st')->∃ val' ow',Sim E N st' a w val' ow'/\Kept N j st1 st' val val'/\val' j=a.eval x.op/\noRef (st'.s j)=true/\∀ b s,ow' b=some s->ow b=some s:=fun hxt hs=>
   lone (frz v) (b0z hnr) (b6u (fun _ h=>h) v (F:=noB) (fun _ h=>h.elim) (a44 hnr (a1l (fun b ⟨t,ht,_⟩=>absurd ht (hxt t)) hR))) hs
  cases x with
  | t t=>
   simp only [a2l] at hs
   split at hs
   ·rename_i hn
    exact lone v hnr (a44 hnr (a1d v hn hR)) hs
   ·obtain ⟨_,st2,h3,h4⟩:=a0a hs
    have:=a1c h3
    subst this
    have:=a0g h4
    subst this
    obtain ⟨h5,h6,h7⟩:=ht t rfl
    have hf:=h.freeze t
    rw [hv t rfl] at hf
    have hsl:=hf.slots t
    simp only [St.set_s,if_true] at hsl
    rw [<-h7] at hsl
    have hsl2:=a44 (b0z hnr) (a1l (F':=noB) (fun b hb=>by by_cases h2:ow b=some t<;>simp [h2] at hb) hsl)
    refine ⟨_,_,hf.layp (Q:=noQ) hj (fun _ _ h=>h.elim) (v:=a.eval (X.t t).op) hsl2,⟨fun t ht=>by simp [a0u,ht],fun u hu huj=>by simp [huj,show u≠t by omega]⟩,by simp [a0u],by simpa using b0z hnr,fun b s hb=> ?_⟩
    by_cases h2:ow b=some t
    ·simp [h2] at hb
    ·simpa [h2] using hb
  | c v0=>exact lone2 (fun t he=>by cases he) hs
  | nl sz0=>exact lone2 (fun t he=>by cases he) hs
  | g n0=>exact lone2 (fun t he=>by cases he) hs
  | f n0=>exact lone2 (fun t he=>by cases he) hs
 have hv:∀ t,x= .t t->st1.s t=v:=fun t he=>by have:=(ht t he).1; injection this with h1 _; exact h1.symm
 cases v with
 | dead=>simp [Ev.run] at h2
 | bor t q lo n e1=>
  obtain ⟨r2,st2,h3,h4⟩:=a0a h2
  obtain ⟨rfl,rfl⟩:=a09 h3
  obtain ⟨_,st3,h5,h6⟩:=a0a h4
  obtain ⟨h7,rfl⟩:=a0b h5
  obtain ⟨k,st4,h8,h9⟩:=a0a h6
  obtain ⟨hk,rfl⟩:=a0r h8
  simp only [Bool.and_eq_true,beq_iff_eq,decide_eq_true_eq] at h7
  obtain ⟨he,htN⟩:=h7
  simp only at hk
  cases k<;>simp only [Ev.run_fail,reduceCtorEq] at h9
  case own sz n0 ks=>
   obtain ⟨_,st5,g1,g2⟩:=a0a h9
   obtain ⟨g3,rfl⟩:=a0b g1
   have hlo:lo+n<=n0:=by simpa using g3
   obtain ⟨_,st6,g4,g5⟩:=a0a g2
   have:=a1c g4
   subst this
   have:=a0g g5
   subst this
   simp only [R,QS] at hR
   obtain ⟨a0,c0,hv0,hvx⟩:=hR.2.1 he sz n0 ks hk hlo
   obtain ⟨ow',hf,how⟩:=h.freezeNodeX hk
   have hnode:=a02 q (k':=frz (.own sz n0 ks)) hk
   obtain ⟨u1,hu1,Fk,G,_,_,_,hr1,_⟩:=a32 q (by have:=hf.slots t; simp only [St.set_s,if_true] at this; exact this) hnode
   rw [hv0] at hu1
   injection hu1 with hu1
   have hlen:ks.length=n0*sz:=by
    obtain ⟨u2,hu2,Fk2,G2,_,_,_,hr2,_⟩:=a32 q (h.slots t) hk
    exact a3d hr2
   subst hu1
   have hsub:=a6c (w:=w) (M:=Mo E w ow') (lo:=lo) (n:=n) (sz:=sz) (ks:=a1b ks) (n0:=n0) (a0:=a0) (c0:=c0) (Q:=_) (F:=Fk) (by rw [frz] at hr1; exact hr1) (by rw [a10,hlen]) hlo
   rw [<-hvx] at hsub
   refine ⟨_,_,hf.layp (j:=j) (Q:=noQ) (v:=a.eval x.op) hj (fun _ _ h=>h.elim) hsub,⟨fun t ht=>by simp [a0u,ht],fun u hu huj=> ?_⟩,by simp [a0u],by simp [noRef],how⟩
   simp [huj,show u≠t by omega]
 | loan ks=>
  obtain ⟨t,st2,h3,h4⟩:=a0a h2
  obtain ⟨h5,rfl⟩:=a0r h3
  obtain ⟨l,st3,h6,h7⟩:=a0a h4
  have:=a0g h7
  subst this
  simp only [R] at hR
  obtain ⟨arr,hva,hc1,hrl⟩:=hR
  obtain ⟨ow',g1,g2,g3,g4⟩:=a8i ks h hrl h6
  have hag:R w (Mo E w ow') (.agg l) noQ noB (a.eval x.op):=by simp only [R]; exact ⟨arr,hva,hc1,g3⟩
  refine ⟨_,_,g1.layp (j:=j) (Q:=noQ) (v:=a.eval x.op) hj (fun _ _ h=>h.elim) hag,⟨fun t ht=>by simp [a0u,ht],fun u hu huj=> ?_⟩,by simp [a0u],by simp [noRef],g4⟩
  simp [huj,g2 u hu]
 | _=>
  obtain ⟨_,st2,h3,h4⟩:=a0a h2
  obtain ⟨h5,rfl⟩:=a0b h3
  exact move _ hR hv h5 h4
end
open Classical
section
variable {E:Env} {N:Nat} {a:Act} {w:World}
theorem a8e:∀ (xs:List (Bool×X)) (j:Nat) {st st':St} {val:Nat->Value} {ow:Nat->Option Nat} {u:Unit},Sim E N st a w val ow->(∀ p∈xs,okX N p.2=true)->N<=j->(a4h N j xs).run st=some (u,st')->
  ∃ val' ow',Sim E N st' a w val' ow'/\(∀ t,t < j\/j+xs.length<=t->val' t=val t/\(N<=t->st'.s t=st.s t))/\∀ i x,xs[i]? =some (true,x)->val' (j+i)=a.eval x.op/\noRef (st'.s (j+i))=true
 | [],j,st,st',val,ow,u,h,_,_,hr=>by
  simp only [a4h,Ev.run_pure,Option.some.injEq,Prod.mk.injEq] at hr
  obtain ⟨_,rfl⟩:=hr
  exact ⟨val,ow,h,fun _ _=>⟨rfl,fun _=>rfl⟩,fun i x hx=>by simp at hx⟩
 | (g,x)::xs,j,st,st',val,ow,u,h,hok,hj,hr=>by
  simp only [a4h] at hr
  obtain ⟨_,st1,h1,h2⟩:=a0a hr
  have one:∃ val1 ow1,Sim E N st1 a w val1 ow1/\Kept N j st st1 val val1/\(g=true->val1 j=a.eval x.op/\noRef (st1.s j)=true):=by
   cases g with
   | true=>
    simp only [if_true] at h1
    obtain ⟨val1,ow1,g1,g2,g3,g4⟩:=b6x h (hok (true,x) (by simp)) hj h1
    exact ⟨val1,ow1,g1,g2,fun _=>⟨g3,g4⟩⟩
   | false=>
    simp only [Bool.false_eq_true,if_false,Ev.run_pure,Option.some.injEq,Prod.mk.injEq] at h1
    obtain ⟨_,rfl⟩:=h1
    exact ⟨val,ow,h,⟨fun _ _=>rfl,fun _ _ _=>rfl⟩,fun hc=>by cases hc⟩
  obtain ⟨val1,ow1,g1,g2,g3⟩:=one
  obtain ⟨val2,ow2,k1,k2,k3⟩:=a8e xs (j+1) g1 (fun p hp=>hok p (by simp [hp])) (by omega) h2
  refine ⟨val2,ow2,k1,fun t ht=> ?_,fun i y hy=> ?_⟩
  ·simp only [List.length_cons] at ht
   obtain ⟨e1,e2⟩:=k2 t (by omega)
   exact ⟨e1.trans (g2.val t (by omega)),fun hN=>(e2 hN).trans (g2.scratch t hN (by omega))⟩
  ·cases i with
   | zero=>
    simp only [List.getElem?_cons_zero,Option.some.injEq,Prod.mk.injEq] at hy
    obtain ⟨rfl,rfl⟩:=hy
    obtain ⟨e1,e2⟩:=k2 j (by omega)
    rw [Nat.add_zero,e1,e2 hj]
    exact g3 rfl
   | succ i=>
    rw [show j+(i+1)=j+1+i by omega]
    exact k3 i y (by simpa using hy)
theorem a7f:∀ (xs:List (Bool×X)) (j:Nat) {st st':St} {val:Nat->Value} {ow:Nat->Option Nat} {u:Unit},Sim E N st a w val ow->(∀ p∈xs,okX N p.2=true)->N<=j->(a2s N j xs).run st=some (u,st')->
  ∃ val' ow',Sim E N st' a w val' ow'/\(∀ t,t < j\/j+xs.length<=t\/(∃ x,xs[t - j]? =some (true,x))->val' t=val t/\(N<=t->st'.s t=st.s t))/\
   (∀ i x,xs[i]? =some (false,x)->val' (j+i)=a.eval x.op/\noRef (st'.s (j+i))=true)/\∀ b s,ow' b=some s->ow b=some s
 | [],j,st,st',val,ow,u,h,_,_,hr=>by
  simp only [a2s,Ev.run_pure,Option.some.injEq,Prod.mk.injEq] at hr
  obtain ⟨_,rfl⟩:=hr
  exact ⟨val,ow,h,fun _ _=>⟨rfl,fun _=>rfl⟩,fun i x hx=>by simp at hx,fun _ _ h=>h⟩
 | (g,x)::xs,j,st,st',val,ow,u,h,hok,hj,hr=>by
  simp only [a2s] at hr
  obtain ⟨_,st1,h1,h2⟩:=a0a hr
  have one:∃ val1 ow1,Sim E N st1 a w val1 ow1/\(∀ t,t≠j\/g=true->val1 t=val t/\(N<=t->st1.s t=st.s t))/\(g=false->val1 j=a.eval x.op/\noRef (st1.s j)=true)/\∀ b s,ow1 b=some s->ow b=some s:=by
   cases g with
   | false=>
    simp only [Bool.false_eq_true,if_false] at h1
    obtain ⟨val1,ow1,g1,g2,g3,g4,g5⟩:=b7e h (hok (false,x) (by simp)) hj h1
    exact ⟨val1,ow1,g1,fun t ht=>⟨g2.val t (by simpa using ht),fun hN=>g2.scratch t hN (by simpa using ht)⟩,fun _=>⟨g3,g4⟩,g5⟩
   | true=>
    simp only [if_true,Ev.run_pure,Option.some.injEq,Prod.mk.injEq] at h1
    obtain ⟨_,rfl⟩:=h1
    exact ⟨val,ow,h,fun _ _=>⟨rfl,fun _=>rfl⟩,(fun hc=>by cases hc),fun _ _ h=>h⟩
  obtain ⟨val1,ow1,g1,g2,g3,g4⟩:=one
  obtain ⟨val2,ow2,k1,k2,k3,k4⟩:=a7f xs (j+1) g1 (fun p hp=>hok p (by simp [hp])) (by omega) h2
  refine ⟨val2,ow2,k1,fun t ht=> ?_,fun i y hy=> ?_,fun b s hb=>g4 b s (k4 b s hb)⟩
  ·simp only [List.length_cons] at ht
   have htt:t < j+1\/j+1+xs.length<=t\/∃ y,xs[t - (j+1)]? =some (true,y):=by
    rcases ht with ht | ht | ⟨y,hy⟩
    ·omega
    ·omega
    ·by_cases htj:t < j+1
     ·exact .inl htj
     ·refine .inr (.inr ⟨y,?_⟩)
      rw [show t - j=(t - (j+1))+1 by omega] at hy
      simpa using hy
   obtain ⟨e1,e2⟩:=k2 t htt
   have htg:t≠j\/g=true:=by
    by_cases htj:t=j
    ·subst htj
     rcases ht with ht | ht | ⟨y,hy⟩
     ·omega
     ·omega
     ·simp at hy; exact .inr hy.1
    ·exact .inl htj
   obtain ⟨e3,e4⟩:=g2 t htg
   exact ⟨e1.trans e3,fun hN=>(e2 hN).trans (e4 hN)⟩
  ·cases i with
   | zero=>
    simp only [List.getElem?_cons_zero,Option.some.injEq,Prod.mk.injEq] at hy
    obtain ⟨rfl,rfl⟩:=hy
    obtain ⟨e1,e2⟩:=k2 j (by omega)
    rw [Nat.add_zero,e1,e2 hj]
    exact g3 rfl
   | succ i=>
    rw [show j+(i+1)=j+1+i by omega]
    exact k3 i y (by simpa using hy)
end
structure Ret (w:World) (A Fa:BS) (w':World) (res:AV) (v:Value):Prop where
 le:w.heap.size<=w'.heap.size
 os:w'.os=w.os
 tape:w'.tape=w.tape
 output:w'.output=w.output
 frame:∀ b,b < w.heap.size->¬ Fa b->w'.heap[b]? =w.heap[b]?
 own:∃ F:BS,(∀ b,F b->(Fa b\/w.heap.size<=b)/\b < w'.heap.size)/\R w' (fun b=>b < w'.heap.size/\¬ F b/\(A b\/Fa b\/w.heap.size<=b)) res noQ F v
def ACalls (P:Program) (G:GG) (f:FuncId) (pre:List AV) (res:AV):Prop:=
 ∀ (w:World) (args:Array Value) (A:BS) (ow:Nat->Option Nat),args.size=pre.length->(∀ b,A b->b < w.heap.size/\ow b=none)->(∀ b i,ow b=some i->i < pre.length/\b < w.heap.size)->
  (∀ g v,G.at g v->GC G w g v/\g < w.heap.size/\ow g=none)->(∀ i av,pre[i]? =some av->R w A av noQ (fun b=>ow b=some i) (args.getD i undef))->
  Calls P f args w (fun e w'=>∃ v,e= .returned v/\Ret w A (fun b=>ow b≠none) w' res v)
mutual
def a0v:AV->Bool
 | .sl _ ks=>ks.isEmpty
 | .ip _ _=>false
 | .own _ _ ks=>a01 ks
 | .var ks=>a01 ks
 | .agg ks=>a01 ks
 | .tup ks=>a01 ks
 | .ifc _ k=>a0v k
 | .fn _ fs cs=>a01 fs&&a01 cs
 | .mp _ vs=>a01 vs
 | .loan ks=>a01 ks
 | _=>true
def a01:List AV->Bool
 | []=>true
 | k::ks=>a0v k&&a01 ks
end
mutual
theorem b0y {w:World} {M M':BS}:∀ (av:AV) {Q:QR} {F:BS} {v:Value},a0v av=true->R w M av Q F v->R w M' av Q F v
 | .dead,_,_,_,_,_=>by simp only [R]
 | .lit u,_,_,_,_,h=>by simp only [R] at *; exact h
 | .sl n ks,_,_,_,hn,h=>by
  simp only [a0v,List.isEmpty_iff] at hn
  subst hn
  simp only [R,RL] at *
  obtain ⟨a,c,hv,hc,vs,h1,hr,h⟩:=h
  exact ⟨a,c,hv,hc,vs,h1,hr,.inl hr⟩
 | .ip ks off,_,_,_,hn,h=>by simp [a0v] at hn
 | .own sz n ks,_,F,_,hn,h=>by
  simp only [a0v] at hn
  simp only [R] at *
  rcases h with ⟨h0,h1,h2⟩ | ⟨b,c,cur,T,fz,hv,hb,hh,hz,h1,h2,h3,h4,hr⟩
  ·exact .inl ⟨h0,a3z ks hn h1,h2⟩
  ·exact .inr ⟨b,c,cur,T,fz,hv,hb,hh,hz,h1,h2,h3,h4,a3z ks hn hr⟩
 | .var ks,_,F,_,hn,h=>by
  simp only [a0v] at hn
  simp only [R] at *
  obtain ⟨b,cur,T,fz,hv,hb,hh,hz,h1,hr⟩:=h
  exact ⟨b,cur,T,fz,hv,hb,hh,hz,h1,a3z ks hn hr⟩
 | .agg ks,_,F,_,hn,h=>by
  simp only [a0v] at hn
  simp only [R] at *
  obtain ⟨arr,hv,h1,hr⟩:=h
  exact ⟨arr,hv,h1,a3z ks hn hr⟩
 | .tup ks,_,F,_,hn,h=>by
  simp only [a0v] at hn
  simp only [R] at *
  obtain ⟨arr,hv,hr⟩:=h
  exact ⟨arr,hv,a3z ks hn hr⟩
 | .ifc T k,_,F,_,hn,h=>by
  simp only [a0v] at hn
  simp only [R] at *
  obtain ⟨u,hv,hr⟩:=h
  exact ⟨u,hv,b0y k hn hr⟩
 | .fn f fs cs,_,F,_,hn,h=>by
  simp only [a0v,Bool.and_eq_true] at hn
  simp only [R] at *
  obtain ⟨a1,a2,hv,h1,h2⟩:=h
  exact ⟨a1,a2,hv,a3z fs hn.1 h1,a3z cs hn.2 h2⟩
 | .ref t q o e,_,_,_,_,h=>by simp only [R] at *; exact h
 | .bor t q lo n e,_,_,_,_,h=>by simp only [R] at *; exact h
 | .mp keys vals,_,F,_,hn,h=>by
  simp only [a0v] at hn
  simp only [R] at *
  obtain ⟨b,es,ck,hv,hb,hh,hk,hr⟩:=h
  exact ⟨b,es,ck,hv,hb,hh,hk,a3z vals hn hr⟩
 | .loan ks,_,F,_,hn,h=>by
  simp only [a0v] at hn
  simp only [R] at *
  obtain ⟨arr,hv,h1,hr⟩:=h
  exact ⟨arr,hv,h1,a3z ks hn hr⟩
theorem a3z {w:World} {M M':BS}:∀ (ks:List AV) {Q:QR} {F:BS} {vs:List Value},a01 ks=true->RL w M ks Q F vs->RL w M' ks Q F vs
 | [],_,_,_,_,h=>by simp only [RL] at *; exact h
 | k::ks,_,F,_,hn,h=>by
  simp only [a01,Bool.and_eq_true] at hn
  simp only [RL] at *
  obtain ⟨v,vs',hv,F1,F2,h1,h2,hd,hr,hrs⟩:=h
  exact ⟨v,vs',hv,F1,F2,h1,h2,hd,b0y k hn.1 hr,a3z ks hn.2 hrs⟩
end
def St.clear (N:Nat) (st:St):St:={ st with s:=fun t=>if t < N then st.s t else .dead }
def b51 (N:Nat) (d:Option Nat) (res:AV):Ev Unit:=match d with
 | none=>pure ()
 | some _=>a26 N d res
def a37 (N:Nat) (n:Nat) (st:St):List AV:=(List.range n).map fun i=>st.s (N+2+i)
def c4g (P:Program) (G:GG) (N:Nat) (d:Option Nat) (f:FuncId) (args:List (Bool×X)) (K:St->Prop) (st:St):Prop:=
 ∃ st1 st2 res st3,(a4h N (N+2) args).run st=some ((),st1)/\(a2s N (N+2) args).run st1=some ((),st2)/\ACalls P G f (a37 N args.length st2) res/\noRef res=true/\
  (b51 N d res).run ((if a0v res then st1 else st2).clear N)=some ((),st3)/\K st3
def fnB (P:Program) (f:FuncId):Bool:=match P.funcs[f]? with
 | some fn => !(fn.name == "runtime.NumGoroutine") && fn.body.isSome
 | none=>false
open Classical
section
variable {E:Env} {N:Nat} {a:Act} {w:World} {st:St} {val:Nat->Value} {ow:Nat->Option Nat}
theorem Sim.back (h:Sim E N st a w val ow) {w':World} {res:AV} {v:Value} {F Fa:BS} (hle:w.heap.size<=w'.heap.size) (hos:w'.os=w.os) (htape:w'.tape=w.tape) (hout:w'.output=w.output)
  (hframe:∀ b,b < w.heap.size->¬ Fa b->w'.heap[b]? =w.heap[b]?) (hFa:∀ b,Fa b->∃ s,ow b=some s/\N<=s) (hF:∀ b,F b->(Fa b\/w.heap.size<=b)/\b < w'.heap.size)
  (hR:R w' (Mo E w' (fun b=>if F b then some N else match ow b with | some t=>if t < N then some t else none | none=>none)) res noQ F v) :
  ∃ ow',Sim E N ((st.clear N).put N res) a w' (a0u val N v) ow':=by
 have hcl:∀ b t,ow b=some t->t < N->¬ Fa b:=fun b t hb ht hf=>by
  obtain ⟨s,hs,hN⟩:=hFa b hf
  rw [hb] at hs; injection hs with hs; omega
 have hnF:∀ b t,ow b=some t->t < N->¬ F b:=fun b t hb ht hf=>by
  rcases (hF b hf).1 with h1 | h1
  ·exact hcl b t hb ht h1
  ·have:=h.lt b t hb; omega
 have hkeep:∀ b t,ow b=some t->t < N->w'.heap[b]? =w.heap[b]? :=fun b t hb ht=>hframe b (h.lt b t hb) (hcl b t hb ht)
 have hfree:∀ b,ow b=none->b < w.heap.size->¬ F b/\w'.heap[b]? =w.heap[b]? :=fun b hb hlt=>by
  have hnf:¬ Fa b:=fun hf=>by obtain ⟨s,hs,_⟩:=hFa b hf; rw [hb] at hs; cases hs
  refine ⟨fun hf=> ?_,hframe b hlt hnf⟩
  rcases (hF b hf).1 with h1 | h1
  ·exact hnf h1
  ·omega
 refine ⟨fun b=>if F b then some N else match ow b with | some t=>if t < N then some t else none | none=>none,?_⟩
 exact {
  size:=h.size,defers:=h.defers
  agree:=fun t ht=>(h.agree t ht).trans (by have:t≠N:=by omega
                                            simp [a0u,this])
  lt:=fun b t hb=>by
   by_cases hf:F b
   ·exact (hF b hf).2
   ·simp only [hf,if_false] at hb
    cases ho:ow b with
    | none=>simp [ho] at hb
    | some s=>exact Nat.lt_of_lt_of_le (h.lt b s ho) hle
  old:=fun b hb hE=>by
   obtain ⟨h1,h2⟩:=h.old b hb hE
   obtain ⟨h3,h4⟩:=hfree b h1 (Nat.lt_of_lt_of_le hb h.le)
   exact ⟨by simp [h3,h1],h4.trans h2⟩
  le:=Nat.le_trans h.le hle
  os:=hos.trans h.os,tape:=htape.trans h.tape,output:=hout.trans h.output
  glob:=fun g v hg=>by
   obtain ⟨h1,h2⟩:=h.globA g v hg
   exact (h.glob g v hg).keep (hfree g (h.old g h1 h2).1 (Nat.lt_of_lt_of_le h1 h.le)).2
  globA:=h.globA
  slots:=a1y h (fun _ _=>false) (fun u=>N<=u) (fun t ht=>by
    have ht':t < N:=by omega
    rw [a2z]
    refine ⟨by simp [St.clear,ht',show t≠N by omega],by simp [a0u,show t≠N by omega],fun b hb=>⟨?_,hkeep b t hb ht'⟩⟩
    simp [hnF b t hb ht',hb,ht']) (fun t ht=>by
    by_cases htN:t=N
    ·subst htN
     simp only [St.put_s,if_true,a0u]
     exact a0t (fun _ h=>h) (fun _ _=>rfl) res (fun _ _ h=>h.elim) (fun b hb=>by simp [hb]) (fun _ _=>rfl) hR
    ·simp [htN,St.clear,show ¬ t < N by omega,R]) (fun b hb=>by
    obtain ⟨h1,h2,h3⟩:=hb
    obtain ⟨h4,h5⟩:=hfree b h1 h2
    exact ⟨⟨by simp [h4,h1],Nat.lt_of_lt_of_le h2 hle,h3⟩,h5⟩) (fun t q _=>by
    by_cases ht:t=N
    ·subst ht; exact Stab.put (v:=res) (by simp) (by simp [St.put_ep,St.clear]) q
    ·by_cases hlt:t < N
     ·refine ⟨by simp [St.put_ep,ht,St.clear],fun _ k' hk _=>⟨k',by simpa [ht,St.clear,hlt] using hk,fun ks' h hne=>⟨ks',h,hne⟩,fun _ _ ks' h=>⟨ks',h⟩,fun h=>h,?_⟩⟩
      simp only [a0u,ht,if_false]
      have hk':a0c (st.s t) q=some k':=by simpa [ht,St.clear,hlt] using hk
      exact a15 q (h.slots t) hk' (fun b hb=>hkeep b t hb hlt)
     ·exact Stab.norow (by simp [St.put_ep,ht,St.clear]) (by simp [ht,St.clear,hlt,a0l]) q) }
theorem a96 {P:Program} {f:FuncId} (h:fnB P f=true) (args:Array Value) (w:World):(callFunc f args).run P w= .ok (.enter f args) w:=by
 unfold fnB at h
 split at h
 ·rename_i fn hf
  simp only [Bool.and_eq_true,Bool.not_eq_true'] at h
  have hn : ¬ fn.name = "runtime.NumGoroutine" := by simpa using h.1
  have hb:¬ fn.body=none:=by
   intro hb
   rw [hb] at h
   exact absurd h.2 (by simp)
  simp [callFunc,hf,hn,hb]
 ·cases h
theorem b8p (h:Sim E N st a w val ow) {P:Program} {G:GG} (hG:E.G=G) {o:Oper} {f:FuncId} {args:List (Bool×X)} {tys:Array TypeId} (ho:o.op= .call { callee:= .value (.func f),args:=(args.map fun p=>p.2.op).toArray,argTypes:=tys })
  (hd:∀ d,o.dst=some d->d < N) (hok:∀ p∈args,okX N p.2=true) (hf:fnB P f=true) {K:St->Prop} (hc:c4g P G N o.dst f args K st)
  {K':Act->World->Prop} {Q:Exit->Act->World->Prop} (hK:∀ v st' w' val' ow',K st'->Sim E N st' (a.put o.dst v) w' val' ow'->K' (a.put o.dst v) w'):o.wp P a w K' Q:=by
 obtain ⟨st1,st2,res,st3,h1,h2,hA,hnr,h3,hk⟩:=hc
 obtain ⟨val1,ow1,s1,e1,e2⟩:=a8e args (N+2) h hok (by omega) h1
 obtain ⟨val2,ow2,s2,g1,g2,g3⟩:=a7f args (N+2) s1 hok (by omega) h2
 have hargs:∀ i g x,args[i]? =some (g,x)->val2 (N+2+i)=a.eval x.op/\noRef (st2.s (N+2+i))=true:=fun i g x hx=>by
  cases g with
  | true=>
   obtain ⟨k1,k2⟩:=g1 (N+2+i) (.inr (.inr ⟨x,by rw [show N+2+i - (N+2)=i by omega]; exact hx⟩))
   rw [k1,k2 (by omega)]
   exact e2 i x hx
  | false=>exact g2 i x hx
 have hrun:(execOp a.eval o).run P w= .ok (.enter f (args.map fun p=>a.eval p.2.op).toArray) w:=by
  have hval:a.eval (.func f)= .func (.func f) #[] #[]:=rfl
  simp only [execOp,ho,resolve,hval,Deferred.ofValue,Sem.run_bind,Sem.run_pure,Result.andThen_ok,invoke]
  rw [a96 hf]
  simp [Function.comp_def]
 unfold Oper.wp
 rw [hrun,Oper.upon_enter]
 let owc:Nat->Option Nat:=fun b=>match ow2 b with | some s=>if N+2<=s/\s < N+2+args.length then some (s - (N+2)) else none | none=>none
 have howc:∀ b i,owc b=some i↔(ow2 b=some (N+2+i)/\i < args.length):=fun b i=>by
  simp only [owc]
  cases hb:ow2 b with
  | none=>simp
  | some s=>
   simp only [Option.some.injEq]
   constructor
   ·intro hs
    split at hs
    ·injection hs with hs; omega
    ·cases hs
   ·rintro ⟨rfl,hi⟩
    rw [if_pos (by omega)]
    simp
 refine Calls.mono (hA w _ (Mo E w ow2) owc (by simp [a37]) (fun b hb=>⟨hb.2.1,?_⟩) (fun b i hb=> ?_) (fun g v hg=> ?_) (fun i av hi=> ?_)) ?_
 ·simp [owc,hb.1]
 ·obtain ⟨k1,k2⟩:=(howc b i).1 hb
  exact ⟨by simpa [a37] using k2,s2.lt b _ k1⟩
 ·rw [<-hG] at hg
  obtain ⟨k1,k2⟩:=s2.globA g v hg
  refine ⟨hG ▸ s2.glob g v hg,Nat.lt_of_lt_of_le k1 s2.le,?_⟩
  simp [owc,(s2.old g k1 k2).1]
 ·have hil:i < args.length:=by
   have:=(List.getElem?_eq_some_iff.1 hi).1
   simpa [a37] using this
  have hav:av=st2.s (N+2+i):=by
   simp [a37,hil] at hi
   exact hi.symm
  subst hav
  obtain ⟨g,x⟩:Bool×X:=args[i]
  obtain ⟨k1,k2⟩:=hargs i args[i].1 args[i].2 (by simp [hil])
  have hv:((args.map fun p=>a.eval p.2.op).toArray).getD i undef=val2 (N+2+i):=by
   rw [k1]; simp [hil]
  rw [hv]
  exact a1l (fun b hb=>(howc b i).2 ⟨hb,hil⟩) (a44 k2 (s2.slots (N+2+i)))
 ·rintro e w' ⟨v,rfl,hret⟩
  obtain ⟨F,hF,hRF⟩:=hret.own
  have hFa:∀ b,owc b≠none->∃ s,ow2 b=some s/\N<=s:=fun b hb=>by
   cases hi:owc b with
   | none=>exact absurd hi hb
   | some i=>exact ⟨_,((howc b i).1 hi).1,by omega⟩
  have fin:∀ (stB:St) (valB:Nat->Value) (owB:Nat->Option Nat),Sim E N stB a w valB owB->(∀ b s,ow2 b=some s->owB b=some s)->(∀ (owR:Nat->Option Nat),(∀ b,b < w'.heap.size/\¬ F b/\(Mo E w ow2 b\/owc b≠none\/w.heap.size<=b)->owB b=none\/(∃ s,owB b=some s/\N<=s)->Mo E w' owR b)->R w' (Mo E w' owR) res noQ F v)->
    (b51 N o.dst res).run (stB.clear N)=some ((),st3)->∃ val' ow',Sim E N st3 (a.put o.dst v) w' val' ow':=by
   intro stB valB owB hB hsub hRB hfin
   cases hdst:o.dst with
   | none=>
    rw [hdst] at hfin
    simp only [b51,Ev.run_pure,Option.some.injEq,Prod.mk.injEq,true_and] at hfin
    obtain ⟨ow',hs⟩:=hB.back (w':=w') (res:= .dead) (v:=v) (F:=noB) (Fa:=fun b=>owc b≠none) hret.le hret.os hret.tape hret.output hret.frame (fun b hb=>let ⟨s,k1,k2⟩:=hFa b hb; ⟨s,hsub b s k1,k2⟩) (fun b hb=>hb.elim) (by simp only [R])
    refine ⟨a0u valB N v,ow',?_⟩
    have:(stB.clear N).put N .dead=st3:=by
     rw [<-hfin,a0y _ _ (by simp [a0l])]
     unfold St.set St.clear
     congr 1
     funext u
     by_cases hu:u=N<;>simp [hu]
    rw [this] at hs
    exact hs
   | some d=>
    rw [hdst] at hfin
    simp only [b51] at hfin
    obtain ⟨ow',hs⟩:=hB.back (w':=w') (res:=res) (v:=v) (F:=F) (Fa:=fun b=>owc b≠none) hret.le hret.os hret.tape hret.output hret.frame (fun b hb=>let ⟨s,k1,k2⟩:=hFa b hb; ⟨s,hsub b s k1,k2⟩) hF (hRB _ (fun b hb hb2=>by
     refine ⟨?_,hb.1,?_⟩
     ·rcases hb2 with hb2 | ⟨s,hb2,hs⟩
      ·simp [hb.2.1,hb2]
      ·simp [hb.2.1,hb2,show ¬ s < N by omega]
     ·rcases hb.2.2 with h1 | h1 | h1
      ·exact h1.2.2
      ·obtain ⟨s,k1,_⟩:=hFa b h1
       exact .inr (s2.owned k1).2
      ·exact .inr (.inr (Nat.le_trans s2.le h1))))
    unfold a26 at hfin
    obtain ⟨_,q1,q2,q3⟩:=a0a hfin
    have:=a0g q2
    subst this
    obtain ⟨_,q4,q5,q6⟩:=a0a q3
    have:=a0g q5
    subst this
    obtain ⟨d0,hd0,rfl⟩:=a0e q6
    injection hd0 with hd0
    subst hd0
    obtain ⟨ow'',hs2⟩:=hs.finJ (hd d hdst) (Nat.le_refl N)
    rw [a0y _ N (v:= .dead) (by simp [a0l])]
    simp only [St.put_s,if_true,a0u] at hs2
    exact ⟨_,ow'',hs2⟩
  have hdone:∃ val' ow',Sim E N st3 (a.put o.dst v) w' val' ow':=by
   by_cases hni:a0v res=true
   ·rw [if_pos hni] at h3
    exact fin st1 val1 ow1 s1 g3 (fun owR _=>b0y res hni hRF) h3
   ·rw [if_neg hni] at h3
    refine fin st2 val2 ow2 s2 (fun _ _ h=>h) (fun owR hM=> ?_) h3
    exact a0t (fun b hb=>hM b hb (by
     rcases hb.2.2 with h1 | h1 | h1
     ·exact .inl h1.1
     ·exact .inr (hFa b h1)
     ·refine .inl ?_
      cases hb3:ow2 b with
      | none=>rfl
      | some s=>have:=s2.lt b s hb3; omega)) (fun _ _=>rfl) res (fun _ _ h=>h) (fun _ h=>h) (fun _ _=>rfl) hRF
  obtain ⟨val',ow',hs⟩:=hdone
  exact hK v st3 w' val' ow' hk hs
end
open Classical
inductive CS where
 | p (k:Nat)
 | x (y:X)
  | l (t:Nat)
def b88 (t e:Nat):AV->AV
 | .own _ n _=> .bor t [] 0 n e
 | .var _=> .ref t [] 0 e
 | _=> .dead
def xv (st:St):X->AV
 | .t n=>st.s n
 | .c v=> .lit v
 | .nl sz=> .own sz 0 []
 | .g n=> .lit (.pointer (some ⟨n,0,none⟩))
 | .f n=> .fn n [] []
def b70 (N:Nat) (st:St):CS->Option Nat×AV
 | .p k=>(some k,st.s (N+2+k))
 | .x y=>(none,xv st y)
 | .l t=>(none,b88 t (st.ep t) (st.s t))
def b3g (N:Nat) (st:St) (fs:List AV) (lay:List CS) (cs:List AV):List (Option Nat×AV):=fs.map (fun a=>(none,a))++(lay.map (b70 N st)++cs.map (fun a=>(none,a)))
mutual
def trA (st:St) (L:List (Nat×Nat)):AV->Option AV
 | .ref t q o e=>if q=[]/\e=st.ep t then (L.lookup t).map fun i=> .ref i [] o 0 else none
 | .fn f fs cs=>match trL st L fs,trL st L cs with
  | some a,some b=>some (.fn f a b)
  | _,_=>none
 | .bor _ _ _ _ _=>none
 | .loan _=>none
 | av=>if a0j av then some av else none
def trL (st:St) (L:List (Nat×Nat)):List AV->Option (List AV)
 | []=>some []
 | k::ks=>match trA st L k,trL st L ks with
  | some a,some b=>some (a::b)
  | _,_=>none
end
def St.init (pre:List AV):St:=⟨fun t=>match pre[t]? with | some av=>av | none=> .lit undef,fun _=>0⟩
structure RetX (w:World) (A Fa:BS) (w':World) (res:AV) (v:Value) (posts:List (Nat×AV)) (args:Array Value):Prop where
 le:w.heap.size<=w'.heap.size
 os:w'.os=w.os
 tape:w'.tape=w.tape
 output:w'.output=w.output
 frame:∀ b,b < w.heap.size->¬ Fa b->w'.heap[b]? =w.heap[b]?
 own:∃ own:Nat->Option Nat,(∀ b j,own b=some j->(Fa b\/w.heap.size<=b)/\b < w'.heap.size)/\
  R w' (fun b=>b < w'.heap.size/\own b=none/\(A b\/Fa b\/w.heap.size<=b)) res noQ (fun b=>own b=some 0) v/\
  ∀ i av,(i,av)∈posts->R w' (fun b=>b < w'.heap.size/\own b=none/\(A b\/Fa b\/w.heap.size<=b)) av noQ (fun b=>own b=some (i+1)) (args.getD i undef)
def ACallsX (P:Program) (G:GG) (f:FuncId) (pre:List AV) (res:AV) (posts:List (Nat×AV)):Prop:=
 ∀ (w:World) (args:Array Value) (A:BS) (ow:Nat->Option Nat),args.size=pre.length->(∀ b,A b->b < w.heap.size/\ow b=none)->(∀ b i,ow b=some i->i < pre.length/\b < w.heap.size)->
  (∀ g v,G.at g v->GC G w g v/\g < w.heap.size/\ow g=none)->(∀ i av,pre[i]? =some av->R w A av (QS w (St.init pre) (fun t=>args.getD t undef)) (fun b=>ow b=some i) (args.getD i undef))->
  Calls P f args w (fun e w'=>∃ v,e= .returned v/\RetX w A (fun b=>ow b≠none) w' res v posts args)
theorem ACalls.toX {P:Program} {G:GG} {f:FuncId} {pre:List AV} {res:AV} (h:ACalls P G f pre res) (hn:∀ av∈pre,noRef av=true):ACallsX P G f pre res []:=fun w args A ow h1 h2 h3 h4 h5=>by
 refine (h w args A ow h1 h2 h3 h4 fun i av hi=>a44 (hn av (List.mem_of_getElem? hi)) (h5 i av hi)).mono ?_
 rintro e w' ⟨v,rfl,hr⟩
 refine ⟨v,rfl,hr.le,hr.os,hr.tape,hr.output,hr.frame,?_⟩
 obtain ⟨F,hF,hR⟩:=hr.own
 refine ⟨fun b=>if F b then some 0 else none,fun b j hb=> ?_,?_,fun i av hi=>by simp at hi⟩
 ·by_cases hf:F b
  ·exact hF b hf
  ·simp [hf] at hb
 ·refine a0t (fun b hb=>⟨hb.1,by simp [hb.2.1],hb.2.2⟩) (fun _ _=>rfl) res (fun _ _ h=>h) (fun b hb=>by simp [hb]) (fun _ _=>rfl) hR
def a7a (T:List (Nat×AV)) (t:Nat) (q:List Nat):Bool:=match q,T.lookup t with
 | _::_,some (.var ks)=> !a0k ks
 | _::_,some (.own _ _ ks)=> !a0k ks
 | _,_=>false
def b80 (v v':AV):Prop:=(∃ ks ks',v= .var ks/\ks≠[]/\v'= .var ks')\/∃ sz n ks ks',v= .own sz n ks/\v'= .own sz n ks'
def St.lentS (N:Nat) (T:List (Nat×AV)) (st:St):St:={ st with s:=fun u=>if u < N then (match T.lookup u with | some av=>av | none=>a0x (a7a T) (st.s u)) else .dead }
theorem b00 {kl:Nat->List Nat->Bool} {av:AV} {q:List Nat} {k:AV} (h:a0c (a0x kl av) q=some k) (hr:nm k=true):a0c av q=some k:=a9x kl h hr
theorem b9c {k:AV} (h:a0j k=true):a0l k=none:=by cases k<;>first | rfl | simp [a0j] at h
theorem a8h:∀ {ks:List AV} {i:Nat} {k:AV},a0k ks=true->ks[i]? =some k->a0j k=true
 | [],i,k,_,h=>by simp at h
 | x::ks,0,k,hn,h=>by
  simp only [a0k,Bool.and_eq_true] at hn
  simp only [List.getElem?_cons_zero,Option.some.injEq] at h
  subst h
  exact hn.1
 | x::ks,i+1,k,hn,h=>by
  simp only [a0k,Bool.and_eq_true] at hn
  exact a8h hn.2 (by simpa using h)
theorem b5g {v:AV} {ks:List AV} {i:Nat} {q:List Nat} {k:AV} (hv:a0l v=some ks) (hn:a0k ks=true) (h:a0c v (i::q)=some k):nm k=false:=by
 simp only [a0c,hv] at h
 cases hi:ks[i]? with
 | none=>simp [hi] at h
 | some k0=>
  simp only [hi] at h
  have h0:=b9c (a8h hn hi)
  have h1:=a5j (a8h hn hi)
  cases q with
  | nil=>simp only [a0c,Option.some.injEq] at h; subst h; exact h1
  | cons j q=>simp only [a0c,h0] at h; cases h
section
variable {E:Env} {N:Nat} {a:Act} {w:World} {st:St} {val:Nat->Value} {ow:Nat->Option Nat}
theorem a9n {T:List (Nat×AV)} (hT:(T.map (·.1)).Nodup) {t:Nat} {av:AV}:T.lookup t=some av↔(t,av)∈T:=by
 induction T with
 | nil=>simp
 | cons p T ih=>
  obtain ⟨u,x⟩:=p
  simp only [List.map_cons,List.nodup_cons] at hT
  by_cases h:t=u
  ·subst h
   simp only [List.lookup_cons,beq_self_eq_true,Option.some.injEq,List.mem_cons,Prod.mk.injEq,true_and]
   exact ⟨fun h=> .inl h.symm,fun h=>h.elim (fun h=>h.symm) fun h=>absurd (List.mem_map.2 ⟨_,h,rfl⟩) hT.1⟩
  ·have:(t==u)=false:=by simpa using h
   simp only [List.lookup_cons,this,List.mem_cons,Prod.mk.injEq,h,false_and,false_or]
   exact ih hT.2
theorem b0x {T:List (Nat×AV)} {t:Nat}:T.lookup t=none↔∀ av,(t,av) ∉ T:=by
 induction T with
 | nil=>simp
 | cons p T ih=>
  obtain ⟨u,x⟩:=p
  by_cases h:t=u
  ·subst h
   simp only [List.lookup_cons,beq_self_eq_true,reduceCtorEq,false_iff]
   exact fun h=>h x (by simp)
  ·have:(t==u)=false:=by simpa using h
   simp only [List.lookup_cons,this,List.mem_cons,Prod.mk.injEq,h,false_and,false_or]
   exact ih
theorem Sim.backX (h:Sim E N st a w val ow) {w':World} {res:AV} {v:Value} {T:List (Nat×AV)} {own:Nat->Option (Option Nat)} {Fa:BS} (hT:(T.map (·.1)).Nodup) (hTN:∀ t av,(t,av)∈T->t < N/\b80 (st.s t) av)
  (hle:w.heap.size<=w'.heap.size) (hos:w'.os=w.os) (htape:w'.tape=w.tape) (hout:w'.output=w.output)
  (hframe:∀ b,b < w.heap.size->¬ Fa b->w'.heap[b]? =w.heap[b]?) (hFa:∀ b,Fa b->∃ s,ow b=some s/\(N<=s\/∃ av,(s,av)∈T)) (hF:∀ b o,own b=some o->(Fa b\/w.heap.size<=b)/\b < w'.heap.size/\∀ t,o=some t->∃ av,(t,av)∈T)
  {ow':Nat->Option Nat} (how:∀ b,ow' b=match own b with
   | some none=>some N
   | some (some t)=>some t
   | none=>match ow b with
    | some s=>if s < N/\(T.lookup s).isNone=true then some s else none
    | none=>none)
  (hR:R w' (Mo E w' ow') res noQ (fun b=>own b=some none) v) (hP:∀ t av,(t,av)∈T->R w' (Mo E w' ow') av noQ (fun b=>own b=some (some t)) (val t)) :
  Sim E N ((st.lentS N T).put N res) a w' (a0u val N v) ow':=by
 have hcl:∀ b t,ow b=some t->t < N->T.lookup t=none->¬ Fa b:=fun b t hb ht hl hf=>by
  obtain ⟨s,hs,hN⟩:=hFa b hf
  rw [hb] at hs; injection hs with hs; subst hs
  rcases hN with hN | ⟨av,hav⟩
  ·omega
  ·exact b0x.1 hl av hav
 have hno:∀ b,¬ Fa b->b < w.heap.size->own b=none:=fun b hb hlt=>by
  cases ho:own b with
  | none=>rfl
  | some o=>rcases (hF b o ho).1 with h1 | h1
            ·exact absurd h1 hb
            ·omega
 have hkeep:∀ b t,ow b=some t->t < N->T.lookup t=none->w'.heap[b]? =w.heap[b]? :=fun b t hb ht hl=>hframe b (h.lt b t hb) (hcl b t hb ht hl)
 have hfree:∀ b,ow b=none->b < w.heap.size->ow' b=none/\w'.heap[b]? =w.heap[b]? :=fun b hb hlt=>by
  have hnf:¬ Fa b:=fun hf=>by obtain ⟨s,hs,_⟩:=hFa b hf; rw [hb] at hs; cases hs
  refine ⟨?_,hframe b hlt hnf⟩
  rw [how,hno b hnf hlt,hb]
 exact {
  size:=h.size,defers:=h.defers
  agree:=fun t ht=>(h.agree t ht).trans (by have:t≠N:=by omega
                                            simp [a0u,this])
  lt:=fun b t hb=>by
   cases ho:own b with
   | some o=>exact (hF b o ho).2.1
   | none=>
    rw [how,ho] at hb
    cases ho2:ow b with
    | none=>simp [ho2] at hb
    | some s=>exact Nat.lt_of_lt_of_le (h.lt b s ho2) hle
  old:=fun b hb hE=>by
   obtain ⟨h1,h2⟩:=h.old b hb hE
   obtain ⟨h3,h4⟩:=hfree b h1 (Nat.lt_of_lt_of_le hb h.le)
   exact ⟨h3,h4.trans h2⟩
  le:=Nat.le_trans h.le hle
  os:=hos.trans h.os,tape:=htape.trans h.tape,output:=hout.trans h.output
  glob:=fun g v hg=>by
   obtain ⟨h1,h2⟩:=h.globA g v hg
   exact (h.glob g v hg).keep (hfree g (h.old g h1 h2).1 (Nat.lt_of_lt_of_le h1 h.le)).2
  globA:=h.globA
  slots:=a1y h (a7a T) (fun u=>N<=u\/∃ av,(u,av)∈T) (fun t ht=>by
    have ht':t < N:=by have:=fun hc=>ht (.inl hc); omega
    have hl:T.lookup t=none:=b0x.2 fun av hav=>ht (.inr ⟨av,hav⟩)
    refine ⟨by simp [St.lentS,ht',hl,show t≠N by omega],by simp [a0u,show t≠N by omega],fun b hb=>⟨?_,hkeep b t hb ht' hl⟩⟩
    rw [how,hno b (hcl b t hb ht' hl) (h.lt b t hb),hb]
    simp [ht',hl]) (fun t ht=>by
    by_cases htN:t=N
    ·subst htN
     simp only [St.put_s,if_true,a0u]
     exact a0t (fun _ h=>h) (fun _ _=>rfl) res (fun _ _ h=>h.elim) (fun b hb=>by rw [how,hb]) (fun _ _=>rfl) hR
    ·by_cases hlt:t < N
     ·obtain ⟨av,hav⟩:=ht.resolve_left (by omega)
      simp only [St.put_s,htN,if_false,a0u,St.lentS,hlt,if_true,(a9n hT).2 hav]
      exact a0t (fun _ h=>h) (fun _ _=>rfl) av (fun _ _ h=>h.elim) (fun b hb=>by rw [how,hb]) (fun _ _=>rfl) (hP t av hav)
     ·simp [htN,St.lentS,hlt,R]) (fun b hb=>by
    obtain ⟨h1,h2,h3⟩:=hb
    obtain ⟨h4,h5⟩:=hfree b h1 h2
    exact ⟨⟨h4,Nat.lt_of_lt_of_le h2 hle,h3⟩,h5⟩) (fun t q hk=>by
    by_cases ht:t=N
    ·subst ht; exact Stab.put (v:=res) (by simp) (by simp [St.put_ep,St.lentS]) q
    ·by_cases hlt:t < N
     ·cases hl:T.lookup t with
      | none=>
       refine ⟨by simp [St.put_ep,ht,St.lentS],fun _ k' hk' hrow=>⟨k',?_,fun ks' h hne=>⟨ks',h,hne⟩,fun _ _ ks' h=>⟨ks',h⟩,fun h=>h,?_⟩⟩
       ·simp only [St.put_s,ht,if_false,St.lentS,hlt,if_true,hl] at hk'
        exact b00 hk' hrow
       ·simp only [a0u,ht,if_false]
        simp only [St.put_s,ht,if_false,St.lentS,hlt,if_true,hl] at hk'
        exact a15 q (h.slots t) (b00 hk' hrow) (fun b hb=>hkeep b t hb hlt hl)
      | some av=>
       have hm:=(a9n hT).1 hl
       obtain ⟨_,hlp⟩:=hTN t av hm
       cases q with
       | cons i q=>
        obtain ⟨ks',hrow',hno⟩:∃ ks',a0l av=some ks'/\a0k ks'=true:=by
         rcases hlp with ⟨ks,ks',_,_,rfl⟩ | ⟨sz,n,ks,ks',_,rfl⟩
         ·exact ⟨ks',rfl,by simpa [a7a,hl] using hk⟩
         ·exact ⟨ks',rfl,by simpa [a7a,hl] using hk⟩
        refine ⟨by simp [St.put_ep,ht,St.lentS],fun _ k' hk' hrow=> ?_⟩
        simp only [St.put_s,ht,if_false,St.lentS,hlt,if_true,hl] at hk'
        rw [b5g hrow' hno hk'] at hrow
        cases hrow
       | nil=>
        refine ⟨by simp [St.put_ep,ht,St.lentS],fun _ k' hk' hrow=>⟨_,rfl,fun ks2 h2 hne2=> ?_,fun sz n ks2 h2=> ?_,fun hmp=> ?_,by simp [a0u,ht,a06]⟩⟩
        all_goals simp only [St.put_s,ht,if_false,St.lentS,hlt,if_true,hl,a0c,Option.some.injEq] at hk'
        all_goals subst hk'
        ·rcases hlp with ⟨ks,ks',h1,hne,rfl⟩ | ⟨sz,n,ks,ks',h1,rfl⟩
         ·exact ⟨ks,by rw [h1]; rfl,hne⟩
         ·refine ⟨ks,by rw [h1]; rfl,?_⟩
          have l1:=h.slots t
          rw [h1] at l1
          have l1:=a3d l1
          have l2:=a3d (hP t _ hm)
          simp only [a0l,Option.some.injEq] at h2
          subst h2
          rintro rfl
          apply hne2
          apply List.eq_nil_of_length_eq_zero
          rw [l2,<-l1]; rfl
        ·rcases hlp with ⟨ks,ks',h1,hne,rfl⟩ | ⟨sz',n',ks,ks',h1,rfl⟩
         ·cases h2
         ·injection h2 with e1 e2 e3
          subst e1; subst e2
          exact ⟨ks,h1⟩
        ·rcases hlp with ⟨ks,ks',h1,hne,rfl⟩ | ⟨sz',n',ks,ks',h1,rfl⟩<;>cases hmp
     ·exact Stab.norow (by simp [St.put_ep,ht,St.lentS]) (by simp [ht,St.lentS,hlt,a0l]) q) }
end
open Classical
def c02 (st:St) (t:Nat) (av:AV):Prop:=(av=AV.ref t [] 0 (st.ep t)/\∃ ks,st.s t= .var ks/\ks≠[])\/∃ sz n ks,st.s t= .own sz n ks/\av= .bor t [] 0 n (st.ep t)
def lendR (v v1:AV):Prop:=(∃ ks ks1,v= .var ks/\ks≠[]/\v1= .var ks1/\ks1≠[])\/∃ sz n ks ks1,v= .own sz n ks/\v1= .own sz n ks1
def b9u:AV->AV->Prop
 | .var _,.var _=>True
 | .own sz n _,.own sz1 n1 _=>sz1=sz/\n1=n
 | _,_=>False
theorem lendR.back {v v1 v2:AV} (h:lendR v v1) (ha:b9u v v2):b80 v v2/\b80 v1 v2:=by
 rcases h with ⟨ks,ks1,rfl,h1,rfl,h2⟩ | ⟨sz,n,ks,ks1,rfl,rfl⟩
 ·cases v2<;>simp only [b9u] at ha
  exact ⟨.inl ⟨_,_,rfl,h1,rfl⟩,.inl ⟨_,_,rfl,h2,rfl⟩⟩
 ·cases v2<;>simp only [b9u] at ha
  obtain ⟨rfl,rfl⟩:=ha
  exact ⟨.inr ⟨_,_,_,_,rfl,rfl⟩,.inr ⟨_,_,_,_,rfl,rfl⟩⟩
theorem lendR.noRef {v v1:AV} (h:lendR v v1):noRef v=true:=by
 rcases h with ⟨ks,ks1,rfl,h1,rfl,h2⟩ | ⟨sz,n,ks,ks1,rfl,rfl⟩<;>rfl
def csK (lay:List CS):List Nat:=lay.filterMap fun | .p k=>some k | _=>none
def d3z (N n:Nat) (lay:List CS):Bool:=(csK lay).Nodup&&lay.all fun | .p k=>decide (k < n) | .x y=>okX N y | .l t=>decide (t < N)
def pX (N:Nat) (st1 st:St):List AV->List (Nat×Nat)->List (Option Nat×AV)->Option (List AV×List (Nat×Nat))
 | acc,L,[]=>some (acc,L)
 | acc,L,(some _,av)::es=>if noRef av=true then pX N st1 st (acc++[av]) L es else none
 | acc,L,(none,.ref t [] 0 e)::es=>match L.lookup t with
  | some j=>if e=st.ep t then pX N st1 st (acc++[.ref j [] 0 0]) L es else none
  | none=>if e=st.ep t/\t < N then (match st.s t,st1.s t with
   | .var (k::ks),.var (_::_)=>pX N st1 st (acc++[.var (k::ks)]) (L++[(t,acc.length)]) es
   | _,_=>none) else none
 | acc,L,(none,.bor t [] 0 n e)::es=>match L.lookup t with
  | some _=>none
  | none=>if e=st.ep t/\t < N then (match st.s t,st1.s t with
   | .own sz n0 ks,.own sz1 n1 _=>if n=n0/\sz1=sz/\n1=n0 then pX N st1 st (acc++[.own sz n0 ks]) (L++[(t,acc.length)]) es else none
   | _,_=>none) else none
 | acc,L,(none,av)::es=>match trA st L av with
  | some p=>pX N st1 st (acc++[p]) L es
  | none=>none
def b7y (P:Program) (G:GG) (N:Nat) (d:Option Nat) (cv:X) (args:List (Bool×X)) (lay:List CS) (K:St->Prop) (st:St):Prop:=
 ∃ f fs cs st1 st2 L pre res posts st3,(a4h N (N+2) args).run st=some ((),st1)/\(a2s N (N+2) args).run st1=some ((),st2)/\xv st2 cv= .fn f fs cs/\fnB P f=true/\
  pX N st1 st2 [] [] (b3g N st2 fs lay cs)=some (pre,L)/\ACallsX P G f pre res posts/\noRef res=true/\posts.map (·.1)=L.map (·.2)/\(∀ i av,(i,av)∈posts->∃ p,pre[i]? =some p/\b9u p av)/\
  (b51 N d res).run ((if a0v res&&posts.all fun p=>a0v p.2 then st1 else st2).lentS N ((L.map (·.1)).zip (posts.map (·.2))))=some ((),st3)/\K st3
section
variable {E:Env} {N:Nat} {a:Act} {w:World} {st:St} {val:Nat->Value} {ow:Nat->Option Nat}
theorem b68 {L:List (Nat×Nat)} {t i:Nat} (h:L.lookup t=some i):(t,i)∈L:=by
 induction L with
 | nil=>simp at h
 | cons p L ih=>
  obtain ⟨u,x⟩:=p
  by_cases h2:t=u
  ·subst h2
   simp at h
   simp [h]
  ·have:(t==u)=false:=by simpa using h2
   simp only [List.lookup_cons,this] at h
   exact List.mem_cons_of_mem _ (ih h)
theorem b85 {L X:List (Nat×Nat)} {t i:Nat} (h:L.lookup t=some i):(L++X).lookup t=some i:=by
 induction L with
 | nil=>simp at h
 | cons p L ih=>
  obtain ⟨u,x⟩:=p
  simp only [List.cons_append,List.lookup_cons] at h ⊢
  split at h
  ·exact h
  ·exact ih h
theorem c0y {L:List (Nat×Nat)} {t:Nat} (h:L.lookup t=none):t ∉ L.map (·.1):=by
 induction L with
 | nil=>simp
 | cons p L ih=>
  obtain ⟨u,x⟩:=p
  simp only [List.lookup_cons] at h
  split at h
  ·cases h
  ·rename_i hne
   simp only [beq_eq_false_iff_ne,ne_eq] at hne
   simp only [List.map_cons,List.mem_cons,not_or]
   exact ⟨hne,ih h⟩
mutual
theorem c1r {L X:List (Nat×Nat)}:∀ (av:AV) {p:AV},trA st L av=some p->trA st (L++X) av=some p
 | .ref t q o e,p,h=>by
  simp only [trA] at h ⊢
  split at h
  ·rename_i hc
   rw [if_pos hc]
   cases hl:L.lookup t with
   | none=>simp [hl] at h
   | some i=>rw [b85 hl]; rw [hl] at h; exact h
  ·cases h
 | .fn f fs cs,p,h=>by
  simp only [trA] at h ⊢
  cases h1:trL st L fs with
  | none=>simp [h1] at h
  | some a1=>
   cases h2:trL st L cs with
   | none=>simp [h1,h2] at h
   | some a2=>rw [b7s fs h1,b7s cs h2]; rw [h1,h2] at h; exact h
 | .bor _ _ _ _ _,p,h=>by simp [trA] at h
 | .loan _,p,h=>by simp [trA] at h
 | .mp _ _,p,h=>by simpa only [trA] using h
 | .dead,p,h=>by simpa only [trA] using h
 | .lit u,p,h=>by simpa only [trA] using h
 | .sl n ks,p,h=>by simpa only [trA] using h
 | .ip ks o,p,h=>by simpa only [trA] using h
 | .own sz n ks,p,h=>by simpa only [trA] using h
 | .var ks,p,h=>by simpa only [trA] using h
 | .agg ks,p,h=>by simpa only [trA] using h
 | .tup ks,p,h=>by simpa only [trA] using h
 | .ifc T k,p,h=>by simpa only [trA] using h
theorem b7s {L X:List (Nat×Nat)}:∀ (ks:List AV) {ps:List AV},trL st L ks=some ps->trL st (L++X) ks=some ps
 | [],ps,h=>by simpa only [trL] using h
 | k::ks,ps,h=>by
  simp only [trL] at h ⊢
  cases h1:trA st L k with
  | none=>simp [h1] at h
  | some a1=>
   cases h2:trL st L ks with
   | none=>simp [h1,h2] at h
   | some a2=>rw [c1r k h1,b7s ks h2]; rw [h1,h2] at h; exact h
end
def pxOK (N:Nat) (st1 st:St) (n0:Nat) (L L2:List (Nat×Nat)) (es:List (Option Nat×AV)) (p2:List AV):Prop:=
 p2.length=es.length/\(∀ t i,(t,i)∈L2->n0<=i/\i < n0+es.length/\t < N/\lendR (st.s t) (st1.s t))/\((L.map (·.1)).Nodup->((L++L2).map (·.1)).Nodup)/\(L2.map (·.2)).Nodup/\
 ∀ (j:Nat) (src:Option Nat) (av:AV),es[j]? =some (src,av)->∃ p,p2[j]? =some p/\match src with
  | some k=>(∀ t,(t,n0+j) ∉ L2)/\noRef av=true/\p=av
  | none=>(∃ t,(t,n0+j)∈L2/\c02 st t av/\p=st.s t)\/((∀ t,(t,n0+j) ∉ L2)/\trA st (L++L2) av=some p)
def c6m (st:St) (L:List (Nat×Nat)):Option Nat->AV->AV->Prop
 | some _,av,p=>noRef av=true/\p=av
 | none,av,p=>trA st L av=some p
theorem pxOK.cons {N:Nat} {st1 st:St} {n0:Nat} {L L2:List (Nat×Nat)} {es:List (Option Nat×AV)} {p2:List AV} (h:pxOK N st1 st (n0+1) L L2 es p2) {src:Option Nat} {av p:AV}
  (hs:c6m st (L++L2) src av p):pxOK N st1 st n0 L L2 ((src,av)::es) (p::p2):=by
 obtain ⟨h1,h2,h3,h4,h5⟩:=h
 refine ⟨by simp [h1],fun t i hm=> ?_,h3,h4,fun j src' av' hj=> ?_⟩
 ·obtain ⟨q1,q2,q3⟩:=h2 t i hm
  exact ⟨by omega,by simp only [List.length_cons]; omega,q3⟩
 ·cases j with
  | zero=>
   simp only [List.getElem?_cons_zero,Option.some.injEq,Prod.mk.injEq] at hj
   obtain ⟨rfl,rfl⟩:=hj
   have hno:∀ t,(t,n0+0) ∉ L2:=fun t hm=>by have:=(h2 t _ hm).1; omega
   refine ⟨p,rfl,?_⟩
   cases src with
   | some k=>exact ⟨hno,hs⟩
   | none=>exact .inr ⟨hno,hs⟩
  | succ j=>
   obtain ⟨p',q1,q2⟩:=h5 j src' av' (by simpa using hj)
   refine ⟨p',by simpa using q1,?_⟩
   rw [show n0+(j+1)=n0+1+j by omega]
   exact q2
theorem c59 {N:Nat} {st1 st:St}:∀ (es:List (Option Nat×AV)) (acc:List AV) (L:List (Nat×Nat)) {pre:List AV} {L':List (Nat×Nat)},pX N st1 st acc L es=some (pre,L')->∃ p2 L2,pre=acc++p2/\L'=L++L2/\pxOK N st1 st acc.length L L2 es p2
 | [],acc,L,pre,L',h=>by
  simp only [pX,Option.some.injEq,Prod.mk.injEq] at h
  obtain ⟨rfl,rfl⟩:=h
  exact ⟨[],[],by simp,by simp,rfl,fun t i hm=>by simp at hm,fun h=>by simpa using h,by simp,fun j src av hj=>by simp at hj⟩
 | (src,av)::es,acc,L,pre,L',h=>by
  have step:∀ (p:AV),c6m st L src av p->pX N st1 st (acc++[p]) L es=some (pre,L')->∃ p2 L2,pre=acc++p2/\L'=L++L2/\pxOK N st1 st acc.length L L2 ((src,av)::es) p2:=fun p hs hp=>by
   obtain ⟨p2,L2,e1,e2,hk⟩:=c59 es _ _ hp
   refine ⟨p::p2,L2,by simp [e1],e2,?_⟩
   refine pxOK.cons (by simpa using hk) ?_
   cases src with
   | some k=>exact hs
   | none=>exact c1r av hs
  cases src with
  | some k=>
   simp only [pX] at h
   split at h
   ·rename_i hn; exact step av ⟨hn,rfl⟩ h
   ·cases h
  | none=>
   have plain:(match trA st L av with | some p=>pX N st1 st (acc++[p]) L es | none=>none)=some (pre,L')->∃ p2 L2,pre=acc++p2/\L'=L++L2/\pxOK N st1 st acc.length L L2 ((none,av)::es) p2:=fun h=>by
    cases ht:trA st L av with
    | none=>rw [ht] at h; cases h
    | some p=>rw [ht] at h; exact step p ht h
   have lent:∀ t,t < N->c02 st t av->lendR (st.s t) (st1.s t)->L.lookup t=none->pX N st1 st (acc++[st.s t]) (L++[(t,acc.length)]) es=some (pre,L')->∃ p2 L2,pre=acc++p2/\L'=L++L2/\pxOK N st1 st acc.length L L2 ((none,av)::es) p2:=fun t htN hnm hlr hl h=>by
    obtain ⟨p2,L2,e1,e2,h1,h2,h3,h4,h5⟩:=c59 es _ _ h
    have hlen:(acc++[st.s t]).length=acc.length+1:=by simp
    rw [hlen] at h2 h5
    refine ⟨st.s t::p2,(t,acc.length)::L2,by simp [e1],by simp [e2],by simp [h1],fun u i hm=> ?_,fun hn=> ?_,?_,fun j src' av' hj=> ?_⟩
    ·rcases List.mem_cons.1 hm with hm | hm
     ·simp only [Prod.mk.injEq] at hm
      obtain ⟨rfl,rfl⟩:=hm
      exact ⟨Nat.le_refl _,by simp,htN,hlr⟩
     ·obtain ⟨q1,q2,q3⟩:=h2 u i hm
      exact ⟨by omega,by simp only [List.length_cons]; omega,q3⟩
    ·have:=h3 (by
      rw [List.map_append,List.nodup_append]
      refine ⟨hn,by simp,fun x hx y hy=> ?_⟩
      simp only [List.map_cons,List.map_nil,List.mem_singleton] at hy
      subst hy
      rintro rfl
      exact c0y hl hx)
     simpa using this
    ·simp only [List.map_cons,List.nodup_cons]
     refine ⟨fun hm=> ?_,h4⟩
     obtain ⟨⟨u,i⟩,hm1,hm2⟩:=List.mem_map.1 hm
     have:=(h2 u i hm1).1
     simp only at hm2
     omega
    ·cases j with
     | zero=>
      simp only [List.getElem?_cons_zero,Option.some.injEq,Prod.mk.injEq] at hj
      obtain ⟨rfl,rfl⟩:=hj
      exact ⟨_,rfl,.inl ⟨t,by simp,hnm,rfl⟩⟩
     | succ j=>
      obtain ⟨p',q1,q2⟩:=h5 j src' av' (by simpa using hj)
      refine ⟨p',by simpa using q1,?_⟩
      rw [show acc.length+(j+1)=acc.length+1+j by omega]
      have hne:∀ u,(u,acc.length+1+j)∈(t,acc.length)::L2↔(u,acc.length+1+j)∈L2:=fun u=>by
       simp only [List.mem_cons,Prod.mk.injEq]
       exact ⟨fun h=>h.elim (fun h=>by omega) id,.inr⟩
      cases src' with
      | some k=>exact ⟨fun u hm=>q2.1 u ((hne u).1 hm),q2.2⟩
      | none=>
       rcases q2 with ⟨u,q3,q4⟩ | ⟨q3,q4⟩
       ·exact .inl ⟨u,(hne u).2 q3,q4⟩
       ·exact .inr ⟨fun u hm=>q3 u ((hne u).1 hm),by simpa using q4⟩
   by_cases hr:∃ t e,av= .ref t [] 0 e
   ·obtain ⟨t,e,rfl⟩:=hr
    simp only [pX] at h
    split at h
    ·rename_i j hl
     split at h
     ·rename_i he
      exact step (.ref j [] 0 0) (by simp [c6m,trA,he,hl]) h
     ·cases h
    ·rename_i hl
     split at h
     ·rename_i hc
      obtain ⟨rfl,htN⟩:=hc
      split at h
      ·rename_i k ks k1 ks1 hv hv1
       exact lent t htN (.inl ⟨rfl,_,hv,by simp⟩) (.inl ⟨_,_,hv,by simp,hv1,by simp⟩) hl (by rw [hv]; exact h)
      ·cases h
     ·cases h
   ·by_cases hb:∃ t n e,av= .bor t [] 0 n e
    ·obtain ⟨t,n,e,rfl⟩:=hb
     simp only [pX] at h
     split at h
     ·cases h
     ·rename_i hl
      split at h
      ·rename_i hc
       obtain ⟨rfl,htN⟩:=hc
       split at h
       ·rename_i sz n0 ks sz1 n1 ks1 hv hv1
        split at h
        ·rename_i hc2
         obtain ⟨rfl,rfl,rfl⟩:=hc2
         exact lent t htN (.inr ⟨_,_,_,hv,rfl⟩) (.inr ⟨_,_,_,_,hv,hv1⟩) hl (by rw [hv]; exact h)
        ·cases h
       ·cases h
      ·cases h
    ·refine plain ?_
     have:pX N st1 st acc L ((none,av)::es)=(match trA st L av with | some p=>pX N st1 st (acc++[p]) L es | none=>none):=by
      cases av<;>try rfl
      ·rename_i t q o e
       cases q with
       | cons i q=>rfl
       | nil=>
        cases o with
        | zero=>exact absurd ⟨t,e,rfl⟩ hr
        | succ o=>rfl
      ·rename_i t q lo n e
       cases q with
       | cons i q=>rfl
       | nil=>
        cases lo with
        | zero=>exact absurd ⟨t,n,e,rfl⟩ hb
        | succ lo=>rfl
     rw [this] at h
     exact h
mutual
theorem b5v {L:List (Nat×Nat)} {w:World} {M:BS} {pre:List AV} {argv:Nat->Value} (hL:∀ t i,(t,i)∈L->pre[i]? =some (st.s t)/\argv i=val t) :
  ∀ (av:AV) {p:AV} {F:BS} {v:Value},trA st L av=some p->R w M av (QS w st val) F v->R w M p (QS w (St.init pre) argv) noB v
 | .ref t q o e,p,F,v,h,hr=>by
  simp only [trA] at h
  split at h
  ·rename_i hc
   obtain ⟨rfl,rfl⟩:=hc
   cases hl:L.lookup t with
   | none=>simp [hl] at h
   | some i=>
    simp only [hl,Option.map_some,Option.some.injEq] at h
    subst h
    obtain ⟨h1,h2⟩:=hL t i (b68 hl)
    simp only [R,QS] at hr ⊢
    refine ⟨Nat.le_refl _,fun _ k' ks' hk hrow hne=> ?_⟩
    have hk':st.s t=k':=by simpa [a0c,St.init,h1] using hk
    obtain ⟨u,b,g1,g2,g3⟩:=hr.2 trivial (st.s t) ks' rfl (by rw [hk']; exact hrow) hne
    simp only [a06,Option.some.injEq] at g1 ⊢
    exact ⟨_,b,rfl,by rw [h2,g1]; exact g2,g3⟩
  ·cases h
 | .fn f fs cs,p,F,v,h,hr=>by
  simp only [trA] at h
  cases h1:trL st L fs with
  | none=>simp [h1] at h
  | some a1=>
   cases h2:trL st L cs with
   | none=>simp [h1,h2] at h
   | some a2=>
    simp only [h1,h2,Option.some.injEq] at h
    subst h
    simp only [R] at hr ⊢
    obtain ⟨x1,x2,hv,r1,r2⟩:=hr
    exact ⟨x1,x2,hv,b1p hL fs h1 r1,b1p hL cs h2 r2⟩
 | .bor _ _ _ _ _,p,F,v,h,hr=>by simp [trA] at h
 | .loan _,p,F,v,h,hr=>by simp [trA] at h
 | .mp _ _,p,F,v,h,hr=>by simp [trA,a0j] at h
 | .dead,p,F,v,h,hr=>by
  simp only [trA] at h; split at h<;>simp only [Option.some.injEq,reduceCtorEq] at h
  subst h; simp only [R]
 | .lit u,p,F,v,h,hr=>by
  simp only [trA] at h; split at h<;>simp only [Option.some.injEq,reduceCtorEq] at h
  subst h; simp only [R] at hr ⊢; exact hr
 | .sl n ks,p,F,v,h,hr=>by
  simp only [trA] at h; split at h<;>simp only [Option.some.injEq,reduceCtorEq] at h
  subst h; simp only [R] at hr ⊢; exact hr
 | .ip ks o,p,F,v,h,hr=>by
  simp only [trA] at h; split at h<;>simp only [Option.some.injEq,reduceCtorEq] at h
  subst h; simp only [R] at hr ⊢; exact hr
 | .own sz n ks,p,F,v,h,hr=>by
  simp only [trA] at h; split at h<;>simp only [Option.some.injEq,reduceCtorEq] at h
  rename_i hn
  subst h
  have:=a1d _ hn hr
  simp only [R] at this ⊢; exact this
 | .var ks,p,F,v,h,hr=>by
  simp only [trA] at h; split at h<;>simp only [Option.some.injEq,reduceCtorEq] at h
  rename_i hn
  subst h
  have:=a1d _ hn hr
  simp only [R] at this ⊢; exact this
 | .agg ks,p,F,v,h,hr=>by
  simp only [trA] at h; split at h<;>simp only [Option.some.injEq,reduceCtorEq] at h
  rename_i hn
  subst h
  have:=a1d _ hn hr
  simp only [R] at this ⊢; exact this
 | .tup ks,p,F,v,h,hr=>by
  simp only [trA] at h; split at h<;>simp only [Option.some.injEq,reduceCtorEq] at h
  rename_i hn
  subst h
  have:=a1d _ hn hr
  simp only [R] at this ⊢; exact this
 | .ifc T k,p,F,v,h,hr=>by
  simp only [trA] at h; split at h<;>simp only [Option.some.injEq,reduceCtorEq] at h
  rename_i hn
  subst h
  have:=a1d _ hn hr
  simp only [R] at this ⊢; exact this
theorem b1p {L:List (Nat×Nat)} {w:World} {M:BS} {pre:List AV} {argv:Nat->Value} (hL:∀ t i,(t,i)∈L->pre[i]? =some (st.s t)/\argv i=val t) :
  ∀ (ks:List AV) {ps:List AV} {F:BS} {vs:List Value},trL st L ks=some ps->RL w M ks (QS w st val) F vs->RL w M ps (QS w (St.init pre) argv) noB vs
 | [],ps,F,vs,h,hr=>by
  simp only [trL,Option.some.injEq] at h
  subst h
  simp only [RL] at hr ⊢
  exact hr
 | k::ks,ps,F,vs,h,hr=>by
  simp only [trL] at h
  cases h1:trA st L k with
  | none=>simp [h1] at h
  | some a1=>
   cases h2:trL st L ks with
   | none=>simp [h1,h2] at h
   | some a2=>
    simp only [h1,h2,Option.some.injEq] at h
    subst h
    simp only [RL] at hr ⊢
    obtain ⟨v,vs',hv,F1,F2,_,_,_,r1,r2⟩:=hr
    exact ⟨v,vs',hv,noB,noB,fun _ h=>h,fun _ h=>h,fun _ h=>h.elim,b5v hL k h1 r1,b1p hL ks h2 r2⟩
end
theorem b8k (h:Sim E N st a w val ow) {x:X} (hx:okX N x=true):R w (Mo E w ow) (xv st x) (QS w st val) (fun b=>∃ t,x= .t t/\ow b=some t) (a.eval x.op):=by
 have:(a1k x).run st=some ((xv st x,(match x with | .t n=>st.ep n | _=>0)),st):=by cases x<;>rfl
 exact (a0i h hx this).2.1
theorem b82 (h:Sim E N st a w val ow) {t:Nat} (ht:t < N):R w (Mo E w ow) (b88 t (st.ep t) (st.s t)) (QS w st val) noB (a.eval (X.t t).op):=by
 have hv:a.eval (X.t t).op=val t:=h.agree t ht
 rw [hv]
 have hs:=h.slots t
 cases hst:st.s t<;>simp only [b88,R]
 ·rename_i sz n ks
  rw [hst] at hs
  simp only [R] at hs
  simp only [QS]
  refine ⟨Nat.le_refl _,fun _ sz2 n0 ks2 hk hlo=> ?_,fun _ keys vals hk=>rfl⟩
  simp only [a0c,hst,Option.some.injEq,AV.own.injEq] at hk
  obtain ⟨rfl,rfl,rfl⟩:=hk
  simp only [a06]
  rcases hs with ⟨rfl,_,a0,hv⟩ | ⟨b,c,cur,T,fz,hv,_⟩
  ·exact ⟨a0,0,by rw [hv],by rw [hv,Nat.zero_mul,a00]; simp⟩
  ·exact ⟨some ⟨b,0,none⟩,c,by rw [hv],by rw [hv,Nat.zero_mul,a00]; simp⟩
 ·rename_i ks
  rw [hst] at hs
  simp only [R] at hs
  obtain ⟨b,cur,T,fz,hv,_⟩:=hs
  simp only [QS]
  exact ⟨Nat.le_refl _,fun _ k ks2 hk hrow hne=>⟨_,b,rfl,by rw [hv]; rfl,hv⟩⟩
theorem c6e {w:World} {M:BS} {F:BS} {ks:List AV} {t:Nat} {v:Value} (hs:R w M (st.s t) (QS w st val) F (val t)) (hk:st.s t= .var ks) (hne:ks≠[]) (hr:QS w st val (.ref t [] 0 (st.ep t)) v):v=val t:=by
 simp only [QS] at hr
 obtain ⟨u,b,g1,g2,g3⟩:=hr.2 trivial _ ks rfl (by rw [hk]; rfl) hne
 simp only [a06,Option.some.injEq] at g1
 subst g1
 rw [hk] at hs
 simp only [R] at hs
 obtain ⟨b',_,_,_,hv,_⟩:=hs
 rw [hv] at g2 ⊢
 simp only [a8f,Option.some.injEq] at g2
 subst g2
 exact g3
theorem c24 {w:World} {M:BS} {F F2:BS} {t:Nat} {av:AV} {v:Value} (hs:R w M (st.s t) (QS w st val) F (val t)) (hn:c02 st t av) (hr:R w M av (QS w st val) F2 v):v=val t:=by
 rcases hn with ⟨rfl,ks,hk,hne⟩ | ⟨sz,n,ks,hk,rfl⟩
 ·simp only [R] at hr
  exact c6e hs hk hne hr
 ·simp only [R,QS] at hr
  obtain ⟨a0,c0,h1,h2⟩:=hr.2.1 trivial sz n ks (by simp [a0c,hk]) (by omega)
  simp only [a06,Option.some.injEq] at h1
  rw [h1,h2,Nat.zero_mul,a00]
  simp
end
open Classical
theorem b97:∀ {lay:List CS} {m m' k:Nat},(csK lay).Nodup->lay[m]? =some (CS.p k)->lay[m']? =some (CS.p k)->m=m'
 | [],m,m',k,_,h,_=>by simp at h
 | c::l,m,m',k,hn,h,h'=>by
  have hmem:∀ j,l[j]? =some (CS.p k)->k∈csK l:=fun j hj=>List.mem_filterMap.2 ⟨_,List.mem_of_getElem? hj,rfl⟩
  have hl:(csK l).Nodup:=by
   cases c with
   | p k0=>exact (List.nodup_cons.1 (show (k0::csK l).Nodup from hn)).2
   | x y=>exact hn
   | l t=>exact hn
  have h0:c=CS.p k->k ∉ csK l:=fun hc=>by
   subst hc
   exact (List.nodup_cons.1 (show (k::csK l).Nodup from hn)).1
  cases m with
  | zero=>
   cases m' with
   | zero=>rfl
   | succ m'=>exact absurd (hmem m' (by simpa using h')) (h0 (by simpa using h))
  | succ m=>
   cases m' with
   | zero=>exact absurd (hmem m (by simpa using h)) (h0 (by simpa using h'))
   | succ m'=>exact congrArg (· +1) (b97 (k:=k) hl (by simpa using h) (by simpa using h'))
theorem c08 {L:List (Nat×Nat)} (h:(L.map (·.1)).Nodup) {t i j:Nat} (h1:(t,i)∈L) (h2:(t,j)∈L):i=j:=by
 induction L with
 | nil=>simp at h1
 | cons p L ih=>
  obtain ⟨u,x⟩:=p
  simp only [List.map_cons,List.nodup_cons] at h
  have hno:∀ j,(u,j) ∉ L:=fun j hj=>h.1 (List.mem_map.2 ⟨_,hj,rfl⟩)
  rcases List.mem_cons.1 h1 with h1 | h1<;>rcases List.mem_cons.1 h2 with h2 | h2
  ·simp only [Prod.mk.injEq] at h1 h2; rw [h1.2,h2.2]
  ·simp only [Prod.mk.injEq] at h1; rw [h1.1] at h2; exact absurd h2 (hno j)
  ·simp only [Prod.mk.injEq] at h2; rw [h2.1] at h1; exact absurd h1 (hno i)
  ·exact ih h.2 h1 h2
theorem b5h {L:List (Nat×Nat)} (h:(L.map (·.2)).Nodup) {t u i:Nat} (h1:(t,i)∈L) (h2:(u,i)∈L):t=u:=by
 induction L with
 | nil=>simp at h1
 | cons p L ih=>
  obtain ⟨z,x⟩:=p
  simp only [List.map_cons,List.nodup_cons] at h
  have hno:∀ j,(j,x) ∉ L:=fun j hj=>h.1 (List.mem_map.2 ⟨_,hj,rfl⟩)
  rcases List.mem_cons.1 h1 with h1 | h1<;>rcases List.mem_cons.1 h2 with h2 | h2
  ·simp only [Prod.mk.injEq] at h1 h2; rw [h1.1,h2.1]
  ·simp only [Prod.mk.injEq] at h1; rw [h1.2] at h2; exact absurd h2 (hno u)
  ·simp only [Prod.mk.injEq] at h2; rw [h2.2] at h1; exact absurd h1 (hno t)
  ·exact ih h.2 h1 h2
theorem c1t:∀ {L:List (Nat×Nat)} {posts:List (Nat×AV)},posts.map (·.1)=L.map (·.2)->((L.map (·.1)).zip (posts.map (·.2))).map (·.1)=L.map (·.1)/\
  (∀ t av,(t,av)∈(L.map (·.1)).zip (posts.map (·.2))->∃ i,(t,i)∈L/\(i,av)∈posts)/\∀ t i,(t,i)∈L->∃ av,(t,av)∈(L.map (·.1)).zip (posts.map (·.2))
 | [],[],_=>⟨rfl,fun t av h=>by simp at h,fun t i h=>by simp at h⟩
 | [],_::_,h=>by simp at h
 | _::_,[],h=>by simp at h
 | (t0,i0)::L,(j0,av0)::posts,h=>by
  simp only [List.map_cons,List.cons.injEq] at h
  obtain ⟨h1,h2,h3⟩:=c1t h.2
  refine ⟨by simp [h1],fun t av hm=> ?_,fun t i hm=> ?_⟩
  ·simp only [List.map_cons,List.zip_cons_cons,List.mem_cons,Prod.mk.injEq] at hm
   rcases hm with ⟨rfl,rfl⟩ | hm
   ·exact ⟨i0,by simp,by simp [h.1]⟩
   ·obtain ⟨i,k1,k2⟩:=h2 t av hm
    exact ⟨i,List.mem_cons_of_mem _ k1,List.mem_cons_of_mem _ k2⟩
  ·simp only [List.mem_cons,Prod.mk.injEq] at hm
   rcases hm with ⟨rfl,rfl⟩ | hm
   ·exact ⟨av0,by simp⟩
   ·obtain ⟨av,k⟩:=h3 t i hm
    exact ⟨av,by simp [k]⟩
theorem c3q {w:World} {M:BS} {ks:List AV} {Q:QR} {F:BS} {vs:List Value} (h:RL w M ks Q F vs) {i:Nat} {k:AV} (hi:ks[i]? =some k):∃ u,vs[i]? =some u/\R w M k Q F u:=by
 obtain ⟨u,hu,F1,G,h1,_,_,h4,_⟩:=a5g h hi
 exact ⟨u,hu,a1l h1 h4⟩
def c3z (args:List (Bool×X)):CS->Operand
 | .p k=>match args[k]? with
  | some p=>p.2.op
  | none=> .const undef
 | .x y=>y.op
 | .l t=>(X.t t).op
section
variable {E:Env} {N:Nat} {a:Act} {w:World} {st:St} {val:Nat->Value} {ow:Nat->Option Nat}
theorem b8s (h:Sim E N st a w val ow) {args:List (Bool×X)} {lay:List CS} (hlay:d3z N args.length lay=true) (hargs:∀ i g x,args[i]? =some (g,x)->val (N+2+i)=a.eval x.op) {fs cs:List AV} {a1 a2:List Value}
  (h1:RL w (Mo E w ow) fs (QS w st val) noB a1) (h2:RL w (Mo E w ow) cs (QS w st val) noB a2) {i:Nat} {src:Option Nat} {av:AV} (hi:(b3g N st fs lay cs)[i]? =some (src,av)) :
  ∃ v,(a1++(lay.map (fun c=>a.eval (c3z args c))++a2))[i]? =some v/\match src with
   | some k=>k < args.length/\av=st.s (N+2+k)/\v=val (N+2+k)/\∃ m,i=fs.length+m/\lay[m]? =some (CS.p k)
   | none=>∃ F,R w (Mo E w ow) av (QS w st val) F v:=by
 have l1:=a0m h1
 simp only [d3z,Bool.and_eq_true,List.all_eq_true] at hlay
 unfold b3g at hi
 by_cases c1:i < fs.length
 ·rw [List.getElem?_append_left (by simpa using c1)] at hi
  simp only [List.getElem?_map,Option.map_eq_some_iff,Prod.mk.injEq] at hi
  obtain ⟨k,hk,rfl,rfl⟩:=hi
  obtain ⟨u,hu,hr⟩:=c3q h1 hk
  refine ⟨u,by rw [List.getElem?_append_left (by omega)]; exact hu,_,hr⟩
 ·rw [List.getElem?_append_right (by simp; omega)] at hi
  rw [List.getElem?_append_right (by omega)]
  simp only [List.length_map] at hi
  rw [l1]
  by_cases c2:i - fs.length < lay.length
  ·rw [List.getElem?_append_left (by simpa using c2)] at hi ⊢
   simp only [List.getElem?_map,Option.map_eq_some_iff] at hi
   obtain ⟨c,hc,he⟩:=hi
   have hcl:=hlay.2 c (List.mem_of_getElem? hc)
   refine ⟨a.eval (c3z args c),by simp [hc],?_⟩
   cases c with
   | p k=>
    simp only [b70,Prod.mk.injEq] at he
    obtain ⟨rfl,rfl⟩:=he
    have hk:k < args.length:=by simpa using hcl
    refine ⟨hk,rfl,?_,i - fs.length,by omega,hc⟩
    have hx:args[k]? =some (args[k].1,args[k].2):=by simp [hk]
    rw [hargs k _ _ hx]
    simp only [c3z,hx]
   | x y=>
    simp only [b70,Prod.mk.injEq] at he
    obtain ⟨rfl,rfl⟩:=he
    exact ⟨_,b8k h hcl⟩
   | l t=>
    simp only [b70,Prod.mk.injEq] at he
    obtain ⟨rfl,rfl⟩:=he
    exact ⟨_,b82 h (by simpa using hcl)⟩
  ·rw [List.getElem?_append_right (by simp; omega)] at hi ⊢
   simp only [List.length_map,List.getElem?_map,Option.map_eq_some_iff,Prod.mk.injEq] at hi ⊢
   obtain ⟨k,hk,rfl,rfl⟩:=hi
   obtain ⟨u,hu,hr⟩:=c3q h2 hk
   exact ⟨u,by simpa using hu,_,hr⟩
theorem b6k (h:Sim E N st a w val ow) {P:Program} {G:GG} (hG:E.G=G) {o:Oper} {cv:X} {args:List (Bool×X)} {lay:List CS} {tys:Array TypeId} (ho:o.op= .call { callee:= .value cv.op,args:=(lay.map (c3z args)).toArray,argTypes:=tys })
  (hd:∀ d,o.dst=some d->d < N) (hok:∀ p∈args,okX N p.2=true) (hcv:okX N cv=true) (hlay:d3z N args.length lay=true) {K:St->Prop} (hc:b7y P G N o.dst cv args lay K st)
  {K':Act->World->Prop} {Q:Exit->Act->World->Prop} (hK:∀ v st' w' val' ow',K st'->Sim E N st' (a.put o.dst v) w' val' ow'->K' (a.put o.dst v) w'):o.wp P a w K' Q:=by
 obtain ⟨f,fs,cs,st1,st2,L,pre,res,posts,st3,h1,h2,hfv,hf,hpx,hA,hnr,hpost,hvar,h3,hk⟩:=hc
 obtain ⟨p2,L2,x1,x2,hlen,x3,x4,x5,x6⟩:=c59 _ _ _ hpx
 simp only [List.nil_append] at x1 x2
 subst x1; subst x2
 simp only [List.nil_append,List.length_nil,Nat.zero_add] at x3 x4 x6
 have hL1:(L.map (·.1)).Nodup:=x4 (by simp)
 have hL2:=x5
 have hL3:∀ t i,(t,i)∈L->t < N/\i < pre.length/\lendR (st2.s t) (st1.s t):=fun t i hm=>by
  obtain ⟨_,q2,q3,q4⟩:=x3 t i hm
  exact ⟨q3,by omega,q4⟩
 have hpre:=x6
 obtain ⟨val1,ow1,s1,e1,e2⟩:=a8e args (N+2) h hok (by omega) h1
 obtain ⟨val2,ow2,s2,g1,g2,g3⟩:=a7f args (N+2) s1 hok (by omega) h2
 have hargs:∀ i g x,args[i]? =some (g,x)->val2 (N+2+i)=a.eval x.op:=fun i g x hx=>by
  cases g with
  | true=>
   obtain ⟨k1,k2⟩:=g1 (N+2+i) (.inr (.inr ⟨x,by rw [show N+2+i - (N+2)=i by omega]; exact hx⟩))
   rw [k1]
   exact (e2 i x hx).1
  | false=>exact (g2 i x hx).1
 have hfr:=b8k s2 hcv
 rw [hfv] at hfr
 simp only [R] at hfr
 obtain ⟨a1,a2,hval,r1,r2⟩:=hfr
 have eff:=fun {i src av}=>b8s s2 hlay hargs r1 r2 (i:=i) (src:=src) (av:=av)
 have hrun:(execOp a.eval o).run P w= .ok (.enter f (a1++(lay.map (fun c=>a.eval (c3z args c))).toArray++a2)) w:=by
  simp only [execOp,ho,resolve,hval,Deferred.ofValue,Sem.run_bind,Sem.run_pure,Result.andThen_ok,invoke]
  rw [a96 hf]
  simp [Function.comp_def]
 unfold Oper.wp
 rw [hrun,Oper.upon_enter]
 let argv:Array Value:=a1++(lay.map (fun c=>a.eval (c3z args c))).toArray++a2
 have hargv:∀ (i:Nat) v,(a1.toList++(lay.map (fun c=>a.eval (c3z args c))++a2.toList))[i]? =some v->argv.getD i undef=v:=fun i v hv=>by
  have:argv.toList[i]? =some v:=by simpa [argv] using hv
  have h2:argv[i]? =some v:=by simpa using this
  rw [Array.getD_eq_getD_getElem?,h2]; rfl
 let Pb:Nat->Nat->Prop:=fun b i=>∃ s,ow2 b=some s/\((s < N/\(s,i)∈L)\/∃ k av,s=N+2+k/\(b3g N st2 fs lay cs)[i]? =some (some k,av))
 have huniq:∀ b i j,Pb b i->Pb b j->i=j:=by
  rintro b i j ⟨s,hs,hi⟩ ⟨s',hs',hj⟩
  rw [hs] at hs'; injection hs' with hs'; subst hs'
  rcases hi with ⟨hn,hi⟩ | ⟨k,av,rfl,hi⟩<;>rcases hj with ⟨hn',hj⟩ | ⟨k',av',he,hj⟩
  ·exact c08 hL1 hi hj
  ·omega
  ·omega
  ·obtain rfl:k=k':=by omega
   obtain ⟨_,_,_,_,_,m,hm,hm2⟩:=eff hi
   obtain ⟨_,_,_,_,_,m',hm',hm2'⟩:=eff hj
   have hnd:(csK lay).Nodup:=by simp only [d3z,Bool.and_eq_true,decide_eq_true_eq] at hlay; exact hlay.1
   have:=b97 hnd hm2 hm2'
   omega
 let owc:Nat->Option Nat:=fun b=>if hx:∃ i,Pb b i then some (Classical.choose hx) else none
 have howc:∀ b i,owc b=some i↔Pb b i:=fun b i=>by
  simp only [owc]
  split
  ·rename_i hx
   have:=Classical.choose_spec hx
   simp only [Option.some.injEq]
   exact ⟨fun he=>he ▸ this,fun hi=>huniq b _ _ this hi⟩
  ·rename_i hx
   simp only [reduceCtorEq,false_iff]
   exact fun hi=>hx ⟨i,hi⟩
 have hownone:∀ b,ow2 b=none->owc b=none:=fun b hb=>by
  cases ho:owc b with
  | none=>rfl
  | some i=>obtain ⟨s,hs,_⟩:=(howc b i).1 ho; rw [hb] at hs; cases hs
 have hlent:∀ t i,(t,i)∈L->pre[i]? =some (st2.s t)/\argv.getD i undef=val2 t:=fun t i hm=>by
  obtain ⟨htN,hin,hlr⟩:=hL3 t i hm
  obtain ⟨src,av,hes⟩:∃ src av,(b3g N st2 fs lay cs)[i]? =some (src,av):=⟨_,_,List.getElem?_eq_getElem (by omega)⟩
  obtain ⟨p,hp,hcase⟩:=hpre i src av hes
  obtain ⟨v,hv,heff⟩:=eff hes
  cases src with
  | some k=>exact absurd hm (hcase.1 t)
  | none=>
   rcases hcase with ⟨t',hm',hnm,rfl⟩ | ⟨hno,_⟩
   ·obtain rfl:=b5h hL2 hm hm'
    obtain ⟨F,hR⟩:=heff
    exact ⟨hp,by rw [hargv i v hv]; exact c24 (s2.slots t) hnm hR⟩
   ·exact absurd hm (hno t)
 have hback:∀ t i av,(t,i)∈L->(i,av)∈posts->b80 (st2.s t) av/\b80 (st1.s t) av:=fun t i av hm hp=>by
  obtain ⟨p,hp1,hp2⟩:=hvar i av hp
  rw [(hlent t i hm).1] at hp1
  injection hp1 with hp1
  subst hp1
  exact (hL3 t i hm).2.2.back hp2
 refine Calls.mono (hA w argv (Mo E w ow2) owc ?_ (fun b hb=>⟨hb.2.1,hownone b hb.1⟩) (fun b i hb=> ?_) (fun g v hg=> ?_) (fun i p hi=> ?_)) ?_
 ·rw [hlen]
  have l1:=a0m r1
  have l2:=a0m r2
  simp only [Array.length_toList] at l1 l2
  simp [argv,b3g,l1,l2]
 ·obtain ⟨s,hs,hi⟩:=(howc b i).1 hb
  refine ⟨?_,s2.lt b s hs⟩
  rcases hi with ⟨_,hi⟩ | ⟨k,av,_,hi⟩
  ·exact (hL3 s i hi).2.1
  ·rw [hlen]; exact (List.getElem?_eq_some_iff.1 hi).1
 ·rw [<-hG] at hg
  obtain ⟨k1,k2⟩:=s2.globA g v hg
  exact ⟨hG ▸ s2.glob g v hg,Nat.lt_of_lt_of_le k1 s2.le,hownone g (s2.old g k1 k2).1⟩
 ·have hil:i < pre.length:=(List.getElem?_eq_some_iff.1 hi).1
  obtain ⟨src,av,hes⟩:∃ src av,(b3g N st2 fs lay cs)[i]? =some (src,av):=⟨_,_,List.getElem?_eq_getElem (by omega)⟩
  obtain ⟨p',hp,hcase⟩:=hpre i src av hes
  rw [hi] at hp
  obtain rfl:p=p':=by injection hp
  obtain ⟨v,hv,heff⟩:=eff hes
  rw [hargv i v hv]
  cases src with
  | some k=>
   obtain ⟨hno,hnr2,rfl⟩:=hcase
   obtain ⟨hk1,rfl,rfl,m,hm⟩:=heff
   refine a0t (fun _ h=>h) (fun _ _=>rfl) _ (fun _ _ h=>h.elim) (fun b hb=> ?_) (fun _ _=>rfl) (a44 hnr2 (s2.slots (N+2+k)))
   exact (howc b i).2 ⟨_,hb,.inr ⟨k,_,rfl,hes⟩⟩
  | none=>
   rcases hcase with ⟨t,hm,hnm,rfl⟩ | ⟨hno,htr⟩
   ·obtain ⟨_,hv2⟩:=hlent t i hm
    rw [hargv i v hv] at hv2
    rw [hv2]
    refine a0t (fun _ h=>h) (fun _ _=>rfl) _ (fun _ _ h=>h.elim) (fun b hb=> ?_) (fun _ _=>rfl) (a44 (hL3 t i hm).2.2.noRef (s2.slots t))
    exact (howc b i).2 ⟨t,hb,.inl ⟨(hL3 t i hm).1,hm⟩⟩
   ·obtain ⟨F,hR⟩:=heff
    exact a1l (fun b hb=>hb.elim) (b5v hlent av htr hR)
 ·rintro e w' ⟨v,rfl,hret⟩
  obtain ⟨own,hown,hRres,hRposts⟩:=hret.own
  obtain ⟨z1,z2,z3⟩:=c1t hpost
  have hFa:∀ b,owc b≠none->∃ s,ow2 b=some s/\(N<=s\/∃ i,(s,i)∈L):=fun b hb=>by
   cases hi:owc b with
   | none=>exact absurd hi hb
   | some i=>
    obtain ⟨s,hs,hx⟩:=(howc b i).1 hi
    rcases hx with ⟨_,hx⟩ | ⟨k,av,rfl,hx⟩
    ·exact ⟨s,hs,.inr ⟨i,hx⟩⟩
    ·exact ⟨_,hs,.inl (by omega)⟩
  let T:=(L.map (·.1)).zip (posts.map (·.2))
  let own':Nat->Option (Option Nat):=fun b=>match own b with
   | none=>none
   | some 0=>some none
   | some (i+1)=>if hx:∃ t,(t,i)∈L then some (some (Classical.choose hx)) else none
  have hown':∀ b t i,(t,i)∈L->own b=some (i+1)->own' b=some (some t):=fun b t i hm hb=>by
   have hx:∃ t,(t,i)∈L:=⟨t,hm⟩
   simp only [own',hb,hx,dif_pos]
   rw [b5h hL2 (Classical.choose_spec hx) hm]
  have fin:∀ (stB:St) (valB:Nat->Value) (owB:Nat->Option Nat),Sim E N stB a w valB owB->(∀ b s,ow2 b=some s->owB b=some s)->(∀ t i av,(t,i)∈L->(i,av)∈posts->b80 (stB.s t) av)->
    (∀ (owR:Nat->Option Nat),(∀ b,b < w'.heap.size/\own b=none/\(Mo E w ow2 b\/owc b≠none\/w.heap.size<=b)->owB b=none\/(∃ s,owB b=some s/\(N<=s\/∃ av,(s,av)∈T))->Mo E w' owR b)->
     (R w' (Mo E w' owR) res noQ (fun b=>own b=some 0) v/\∀ i av,(i,av)∈posts->R w' (Mo E w' owR) av noQ (fun b=>own b=some (i+1)) (argv.getD i undef)))->
    (b51 N o.dst res).run (stB.lentS N T)=some ((),st3)->∃ val' ow',Sim E N st3 (a.put o.dst v) w' val' ow':=by
   intro stB valB owB hB hsub hrow hRB hfin
   let owR:Nat->Option Nat:=fun b=>match own' b with
    | some none=>some N
    | some (some t)=>some t
    | none=>match owB b with
     | some s=>if s < N/\(T.lookup s).isNone=true then some s else none
     | none=>none
   have hTn:(T.map (·.1)).Nodup:=by rw [z1]; exact hL1
   have hFaT:∀ b,owc b≠none->∃ s,owB b=some s/\(N<=s\/∃ av,(s,av)∈T):=fun b hb=>by
    obtain ⟨s,k1,k2⟩:=hFa b hb
    refine ⟨s,hsub b s k1,k2.imp id fun ⟨i,hi⟩=>z3 s i hi⟩
   have hMM:=hRB owR (fun b hb hb2=>by
    have ho':own' b=none:=by simp only [own',hb.2.1]
    refine ⟨?_,hb.1,?_⟩
    ·simp only [owR,ho']
     rcases hb2 with hb2 | ⟨s,hb2,hs⟩
     ·simp only [hb2]
     ·simp only [hb2]
      rw [if_neg]
      rintro ⟨q1,q2⟩
      rcases hs with hs | ⟨av,hs⟩
      ·omega
      ·rw [(a9n hTn).2 hs] at q2
       cases q2
    ·rcases hb.2.2 with h1 | h1 | h1
     ·exact h1.2.2
     ·obtain ⟨s,k1,_⟩:=hFa b h1
      exact .inr (s2.owned k1).2
     ·exact .inr (.inr (Nat.le_trans s2.le h1)))
   have hval:∀ t i,(t,i)∈L->valB t=val2 t:=fun t i hm=>by
    have ht:=(hL3 t i hm).1
    rw [<-hB.agree t ht,<-s2.agree t ht]
   have back:∀ (r:AV),R w' (Mo E w' owR) r noQ (fun b=>own' b=some none) v->Sim E N ((stB.lentS N T).put N r) a w' (a0u valB N v) owR:=fun r hr=>
    hB.backX (own:=own') (Fa:=fun b=>owc b≠none) hTn (fun t av hm=>by
      obtain ⟨i,k1,k2⟩:=z2 t av hm
      exact ⟨(hL3 t i k1).1,hrow t i av k1 k2⟩) hret.le hret.os hret.tape hret.output hret.frame hFaT (fun b o' hb=>by
      cases hob:own b with
      | none=>simp only [own',hob] at hb; cases hb
      | some j=>
       obtain ⟨q1,q2⟩:=hown b j hob
       refine ⟨q1,q2,fun t ht=> ?_⟩
       subst ht
       cases j with
       | zero=>simp only [own',hob] at hb; cases hb
       | succ i=>
        simp only [own',hob] at hb
        split at hb
        ·rename_i hx
         simp only [Option.some.injEq] at hb
         exact z3 t i (hb ▸ Classical.choose_spec hx)
        ·cases hb) (fun b=>rfl) hr (fun t av hm=>by
      obtain ⟨i,k1,k2⟩:=z2 t av hm
      have:=hMM.2 i av k2
      rw [(hlent t i k1).2,<-hval t i k1] at this
      exact a1l (fun b hb=>hown' b t i k1 hb) this)
   cases hdst:o.dst with
   | none=>
    rw [hdst] at hfin
    simp only [b51,Ev.run_pure,Option.some.injEq,Prod.mk.injEq,true_and] at hfin
    have hs:=back .dead (by simp only [R])
    refine ⟨a0u valB N v,owR,?_⟩
    have:(stB.lentS N T).put N .dead=st3:=by
     rw [<-hfin,a0y _ _ (by simp [a0l])]
     unfold St.set St.lentS
     congr 1
     funext u
     by_cases hu:u=N<;>simp [hu]
    rw [this] at hs
    exact hs
   | some d=>
    rw [hdst] at hfin
    simp only [b51] at hfin
    have hs:=back res (a1l (fun b hb=>by simp only [own',hb]) hMM.1)
    unfold a26 at hfin
    obtain ⟨_,q1,q2,q3⟩:=a0a hfin
    have:=a0g q2
    subst this
    obtain ⟨_,q4,q5,q6⟩:=a0a q3
    have:=a0g q5
    subst this
    obtain ⟨d0,hd0,rfl⟩:=a0e q6
    injection hd0 with hd0
    subst hd0
    obtain ⟨ow'',hs2⟩:=hs.finJ (hd d hdst) (Nat.le_refl N)
    rw [a0y _ N (v:= .dead) (by simp [a0l])]
    simp only [St.put_s,if_true,a0u] at hs2
    exact ⟨_,ow'',hs2⟩
  have hdone:∃ val' ow',Sim E N st3 (a.put o.dst v) w' val' ow':=by
   by_cases hni:(a0v res&&posts.all fun p=>a0v p.2)=true
   ·rw [if_pos hni] at h3
    simp only [Bool.and_eq_true,List.all_eq_true] at hni
    exact fin st1 val1 ow1 s1 g3 (fun t i av k1 k2=>(hback t i av k1 k2).2) (fun owR _=>⟨b0y res hni.1 hRres,fun i av hi=>b0y av (hni.2 _ hi) (hRposts i av hi)⟩) h3
   ·rw [if_neg hni] at h3
    refine fin st2 val2 ow2 s2 (fun _ _ h=>h) (fun t i av k1 k2=>(hback t i av k1 k2).1) (fun owR hM=> ?_) h3
    have hM':∀ b,b < w'.heap.size/\own b=none/\(Mo E w ow2 b\/owc b≠none\/w.heap.size<=b)->Mo E w' owR b:=fun b hb=>hM b hb (by
     rcases hb.2.2 with h1 | h1 | h1
     ·exact .inl h1.1
     ·obtain ⟨s,k1,k2⟩:=hFa b h1
      exact .inr ⟨s,k1,k2.imp id fun ⟨i,hi⟩=>z3 s i hi⟩
     ·refine .inl ?_
      cases hb3:ow2 b with
      | none=>rfl
      | some s=>have:=s2.lt b s hb3; omega)
    exact ⟨a0t hM' (fun _ _=>rfl) res (fun _ _ h=>h) (fun _ h=>h) (fun _ _=>rfl) hRres,fun i av hi=>a0t hM' (fun _ _=>rfl) av (fun _ _ h=>h) (fun _ h=>h) (fun _ _=>rfl) (hRposts i av hi)⟩
  obtain ⟨val',ow',hs⟩:=hdone
  exact hK v st3 w' val' ow' hk hs
end
open Classical
inductive IAct where
 | op (i:IOp)
 | call (f:FuncId) (args:List (Bool×X)) (tys:List TypeId)
 | callx (cv:X) (args:List (Bool×X)) (lay:List CS) (tys:List TypeId)
 | nilq (T:TypeId) (x:X) (yT:TypeId)
 | bad (o:Op)
structure AO where
 dst:Option Nat
 act:IAct
 g:Option (Nat×Nat×Bool):=none
def IAct.erase:IAct->Op
 | .op i=>Ideal.erase i
 | .call f args tys=> .call { callee:= .value (.func f),args:=(args.map fun p=>p.2.op).toArray,argTypes:=tys.toArray }
 | .callx cv args lay tys=> .call { callee:= .value cv.op,args:=(lay.map (c3z args)).toArray,argTypes:=tys.toArray }
 | .nilq T x yT=> .binOp .eql T x.op (.const (.slice none 0 0)) yT
 | .bad o=>o
def AO.e3 (io:AO):Option Nat×Op×Option (Nat×Bool):=(io.dst,io.act.erase,io.g.map fun p=>(p.1,p.2.2))
def o3 (o:Oper):Option Nat×Op×Option (Nat×Bool):=(o.dst,o.op,o.guard)
def d14 (N:Nat):Option Nat->Bool
 | some d=>decide (d < N)
 | none=>true
def d0o (P:Program) (N:Nat):IAct->Bool
 | .op i=>a3m P N i
 | .call f args _=>fnB P f&&args.all fun p=>okX N p.2
 | .callx cv args lay _=>okX N cv&&(args.all fun p=>okX N p.2)&&d3z N args.length lay
 | .nilq T x _=>okX N x&&(match P.underlying T with | some (.slice _)=>true | _=>false)
 | .bad _=>true
def c35 (N:Nat) (ios:List AO):Option (Nat×Nat×Bool)->Bool
 | none=>true
 | some (j,t,_)=>decide (t < N)&&(match ios[j]? with | some io=>io.dst==some t | none=>false)
def e6p (P:Program) (N:Nat) (ios:List AO) (io:AO):Bool:=d14 N io.dst&&d0o P N io.act&&c35 N ios io.g
def b9e (P:Program) (N:Nat) (ios:List AO):Bool:=ios.all (e6p P N ios)
def nqK (v:AV) (d:Option Nat) (K:St->Prop) (st:St):Prop:=match d,v with
 | some d,.sl n ks=>∀ b:Bool,(b=true->ks=[])->K (st.put d (.lit (.bool b)))
 | some d,.own sz n ks=>∀ b:Bool,(b=true->n=0)->K (st.put d (.lit (.bool b)))
 | _,_=>False
def e7m (st:St):X->AV
 | .t n=>st.s n
 | _=> .dead
def b1x (P:Program) (G:GG) (N:Nat) (d:Option Nat) (act:IAct) (K:St->Prop) (st:St):Prop:=match act with
 | .op i=>match (a0w G N d i).run st with
  | some r=>K r.2
  | none=>False
 | .call f args _=>c4g P G N d f args K st
 | .callx cv args lay _=>b7y P G N d cv args lay K st
 | .nilq _ x _=>nqK (e7m st x) d K st
 | .bad _=>False
def a2c (d:Option Nat) (st:St):St:=match d with
 | some d=>st.put d (.lit undef)
 | none=>st
def b2d (want:Bool):Value->Bool
 | .bool b=>b==want
 | _=>false
def a8b (P:Program) (G:GG) (N:Nat) (io:AO) (K:St->Prop) (st:St):Prop:=match io.g with
 | none=>b1x P G N io.dst io.act K st
 | some (_,t,want)=>match st.s t with
  | .lit v=>if b2d want v then b1x P G N io.dst io.act K st else K (a2c io.dst st)
  | _=>False
def a8l (P:Program) (G:GG) (N:Nat):List AO->(St->Prop)->St->Prop
 | [],K,st=>K st
 | io::rest,K,st=>a8b P G N io (a8l P G N rest K) st
section
variable {E:Env} {N:Nat} {st:St} {a:Act} {w:World} {val:Nat->Value} {ow:Nat->Option Nat} {P:Program} {G:GG}
theorem b8w {T e:TypeId} (adr:Option Addr) (n c:Nat) (h:P.underlying T=some (.slice e)) (m:Nat):(Op.equalIn (m+1) T (.slice adr n c) (.slice none 0 0)).run P w= .ok adr.isNone w:=by
 cases adr<;>simp [Op.equalIn,run_underlying h]
def Kp (d:Option Nat) (a a':Act):Prop:=∀ t,d≠some t->a'.tmps.getD t undef=a.tmps.getD t undef
theorem b3y {d:Option Nat} {a:Act} {v:Value}:Kp d a (a.put d v):=fun t ht=>by
 cases d with
 | none=>rfl
 | some d=>
  have hd:d≠t:=fun h=>ht (by rw [h])
  simp only [Act.put,Array.getD_eq_getD_getElem?,Array.getElem?_setIfInBounds_ne hd]
theorem b4n (h:Sim E N st a w val ow) (hG:E.G=G) {o:Oper} {act:IAct} (ho:o.op=act.erase) (hd:d14 N o.dst=true) (hok:d0o P N act=true) {K:St->Prop} (hc:b1x P G N o.dst act K st)
  {K':Act->World->Prop} {Q:Exit->Act->World->Prop} (hK:∀ v st' w' val' ow',K st'->Sim E N st' (a.put o.dst v) w' val' ow'->K' (a.put o.dst v) w'):o.wp P a w K' Q:=by
 have hd':∀ d,o.dst=some d->d < N:=fun d h=>by rw [h] at hd; simpa [d14] using hd
 cases act with
 | op i=>
  simp only [b1x] at hc
  split at hc
  ·rename_i r hr
   obtain ⟨x,w',val',ow',hrun,hs⟩:=c27 (P:=P) h hG (u:=r.1) (st':=r.2) ho hd' hok hr
   unfold Oper.wp
   rw [hrun]
   rcases hs with ⟨v,rfl,hs⟩ | ⟨rfl,hs⟩
   ·rw [Oper.upon_value]; exact hK _ _ _ _ _ hc hs
   ·rw [Oper.upon_skip]; exact hK _ _ _ _ _ hc hs
  ·exact hc.elim
 | call f args tys=>
  simp only [d0o,Bool.and_eq_true,List.all_eq_true] at hok
  exact b8p h hG (tys:=tys.toArray) ho hd' hok.2 hok.1 hc hK
 | callx cv args lay tys=>
  simp only [d0o,Bool.and_eq_true,List.all_eq_true] at hok
  exact b6k h hG (tys:=tys.toArray) ho hd' hok.1.2 hok.1.1 hok.2 hc hK
 | bad o'=>exact hc.elim
 | nilq T x yT=>
  simp only [b1x] at hc
  simp only [d0o,Bool.and_eq_true] at hok
  obtain ⟨hx,hT⟩:=hok
  have hT':∃ e,P.underlying T=some (.slice e):=by
   split at hT
   ·rename_i e he; exact ⟨e,he⟩
   ·cases hT
  obtain ⟨e,hT'⟩:=hT'
  cases x with
  | t t=>
   have htN:t < N:=by simpa [okX] using hx
   simp only [e7m] at hc
   have hsl:=h.slots t
   have hag:=h.agree t htN
   cases hdst:o.dst with
   | none=>rw [hdst] at hc; simp only [nqK] at hc
   | some d=>
    rw [hdst] at hc
    have fin:∀ (adr:Option Addr) (n c:Nat),a.eval (.tmp t)= .slice adr n c->K (st.put d (.lit (.bool adr.isNone)))->o.wp P a w K' Q:=by
     intro adr n c hev hk
     have hrun:(execOp a.eval o).run P w= .ok (.value (.bool adr.isNone)) w:=by
      simp only [execOp,ho,IAct.erase,X.op]
      refine a3c ?_
      rw [Sem.run_bind,hev]
      have e1:(eqGuard .eql T (.tmp t) (.const (.slice none 0 0)) (.slice adr n c) (a.eval (.const (.slice none 0 0)))).run P w= .ok () w:=rfl
      rw [e1]
      show (binOp .eql T (.slice adr n c) (.slice none 0 0)).run P w=_
      have e2:(Op.equal T (.slice adr n c) (.slice none 0 0)).run P w= .ok adr.isNone w:=by
       exact b8w adr n c hT' 9999
      show ((Op.equal T (.slice adr n c) (.slice none 0 0)) >>=fun r=>pure (Value.bool r):Sem Value).run P w=_
      rw [Sem.run_bind,e2]
      rfl
     have hs:=h.fin (hd' d hdst) (av:= .lit (.bool adr.isNone)) (v:= .bool adr.isNone) (by simp only [R]) rfl
     unfold Oper.wp
     rw [hrun,Oper.upon_value,hdst]
     have:=hK (.bool adr.isNone) _ w _ _ hk (by rw [hdst]; exact hs)
     rw [hdst] at this
     exact this
    cases hv:st.s t with
    | sl n ks=>
     rw [hv] at hc hsl
     simp only [nqK] at hc
     simp only [R] at hsl
     obtain ⟨adr,c,hval,_,vs,_,hrl,hor⟩:=hsl
     refine fin adr n c (by rw [<-hval]; exact hag) (hc _ fun hb=> ?_)
     rcases hor with h0 | ⟨b,o',ha,_⟩
     ·subst h0
      have:=a0m hrl
      exact List.eq_nil_of_length_eq_zero (by simpa using this.symm)
     ·subst ha; cases hb
    | own sz n ks=>
     rw [hv] at hc hsl
     simp only [nqK] at hc
     simp only [R] at hsl
     rcases hsl with ⟨h0,_,adr,hval⟩ | ⟨b,c,cur,T',fz,hval,_⟩
     ·exact fin adr 0 0 (by rw [<-hval]; exact hag) (hc _ fun _=>h0)
     ·exact fin _ n c (by rw [<-hval]; exact hag) (hc _ fun hb=>by cases hb)
    | _=>rw [hv] at hc; simp only [nqK] at hc
  | _=>cases hdst:o.dst<;>rw [hdst] at hc<;>simp only [e7m,nqK] at hc
theorem b9j (h:Sim E N st a w val ow) {d:Option Nat} (hd:d14 N d=true):∃ val',Sim E N (a2c d st) (a.put d undef) w val' ow:=by
 cases d with
 | none=>exact ⟨val,h⟩
 | some d=>exact ⟨_,h.fin (by simpa [d14] using hd) (av:= .lit undef) (by simp only [R]) rfl⟩
theorem b35 (h:Sim E N st a w val ow) {ops:Array Oper} {j t:Nat} (hj:(ops[j]?).bind (·.dst)=some t) (ht:t < N) {v:Value} (hv:st.s t= .lit v) (want:Bool):(yielded ops a.tmps j==some want)=b2d want v:=by
 have h1:=h.slots t
 rw [hv] at h1
 simp only [R] at h1
 have h2:=h.agree t ht
 rw [h1] at h2
 have hlt:t < a.tmps.size:=by rw [h.size]; exact ht
 have h3:a.tmps[t]? =some v:=by
  rw [Array.getD_eq_getD_getElem?] at h2
  simp [hlt] at h2 ⊢
  exact h2
 unfold yielded
 rw [hj]
 simp only [Option.bind_some,h3]
 cases v<;>simp [b2d]
theorem b21 (h:Sim E N st a w val ow) (hG:E.G=G) {ops:Array Oper} {ios:List AO} {o:Oper} {io:AO} (hm:ops.toList.map o3=ios.map AO.e3) (hoi:o3 o=io.e3) (hok:e6p P N ios io=true) {K:St->Prop} (hc:a8b P G N io K st)
  {K':Act->World->Prop} {Q:Exit->Act->World->Prop} (hK:∀ st' a' w' val' ow',K st'->Kp o.dst a a'->Sim E N st' a' w' val' ow'->K' a' w') :
  if Region.wanted o (yielded ops a.tmps) then o.wp P a w K' Q else K' (a.put o.dst undef) w:=by
 simp only [e6p,Bool.and_eq_true] at hok
 obtain ⟨⟨hd,ha⟩,hg⟩:=hok
 simp only [o3,AO.e3,Prod.mk.injEq] at hoi
 obtain ⟨e1,e2,e3⟩:=hoi
 unfold a8b at hc
 rw [<-e1] at hc hd
 cases hio:io.g with
 | none=>
  simp only [hio] at hc
  rw [if_pos (by simp [Region.wanted,e3,hio])]
  exact b4n h hG e2 hd ha hc fun v st' w' val' ow' h1 h2=>hK st' _ w' val' ow' h1 b3y h2
 | some g=>
  obtain ⟨j,t,want⟩:=g
  simp only [hio] at hc
  simp only [hio,c35,Bool.and_eq_true,decide_eq_true_eq] at hg
  obtain ⟨ht,hj⟩:=hg
  have hj':(ops[j]?).bind (·.dst)=some t:=by
   have h1:(ops.toList.map o3)[j]? =(ios.map AO.e3)[j]? :=by rw [hm]
   simp only [List.getElem?_map] at h1
   cases h2:ios[j]? with
   | none=>simp [h2] at hj
   | some io2=>
    simp only [h2,beq_iff_eq] at hj
    rw [h2] at h1
    cases h3:ops.toList[j]? with
    | none=>simp [h3] at h1
    | some o2=>
     rw [h3] at h1
     simp only [Option.map_some,Option.some.injEq,o3,AO.e3,Prod.mk.injEq] at h1
     have:ops[j]? =some o2:=by simpa using h3
     rw [this]
     simp [h1.1,hj]
  split at hc
  ·rename_i v hv
   have hy:=b35 h hj' ht hv want
   have hw:Region.wanted o (yielded ops a.tmps)=b2d want v:=by
    simp only [Region.wanted,e3,hio,Option.map_some]
    exact hy
   rw [hw]
   cases hwb:b2d want v with
   | true=>
    simp only [hwb,if_true] at hc ⊢
    exact b4n h hG e2 hd ha hc fun v st' w' val' ow' h1 h2=>hK st' _ w' val' ow' h1 b3y h2
   | false=>
    simp only [hwb,Bool.false_eq_true,if_false] at hc ⊢
    obtain ⟨val',hs⟩:=b9j h hd
    exact hK _ _ _ _ _ hc b3y hs
  ·exact hc.elim
theorem b5i {pins:List Nat} {ops:Array Oper} {ios:List AO} (hm:ops.toList.map o3=ios.map AO.e3) (hok:b9e P N ios=true) (hpin:∀ io∈ios,∀ t∈pins,io.dst≠some t) (hG:E.G=G) {K:St->Prop} {Q:Exit->Act->World->Prop} {a0:Act}
  (hK:∀ st' a' w' val' ow',K st'->(∀ t∈pins,a'.tmps.getD t undef=a0.tmps.getD t undef)->Sim E N st' a' w' val' ow'->Q .normal a' w'):∀ (l:List Oper) (is:List AO),l.map o3=is.map AO.e3->(∀ io∈is,io∈ios)->∀ {st a w val ow},(∀ t∈pins,a.tmps.getD t undef=a0.tmps.getD t undef)->Sim E N st a w val ow->a8l P G N is K st->wpList P ops Q l a w
 | [],[],_,_,st,a,w,val,ow,hp,h,hc=>hK _ _ _ _ _ hc hp h
 | o::l,io::is,hl,hi,st,a,w,val,ow,hp,h,hc=>by
  simp only [List.map_cons,List.cons.injEq] at hl
  refine wpList_step fun K' hK'=> ?_
  have:=List.all_eq_true.1 hok io (hi io (by simp))
  have hdst:o.dst=io.dst:=by have:=hl.1; simp only [o3,AO.e3,Prod.mk.injEq] at this; exact this.1
  exact b21 h hG hm hl.1 this hc (fun st' a' w' val' ow' hk hkp hs=>hK' _ _ (b5i hm hok hpin hG hK l is hl.2 (fun x hx=>hi x (by simp [hx])) (fun t ht=>(hkp t (by rw [hdst]; exact hpin io (hi io (by simp)) t ht)).trans (hp t ht)) hs hk))
 | [],_::_,hl,_,_,_,_,_,_,_,_,_=>by simp at hl
 | _::_,[],hl,_,_,_,_,_,_,_,_,_=>by simp at hl
end
def AWp (P:Program) (G:GG) (N:Nat) (pins:List Nat) (c:Code) (Q:Exit->St->Prop) (st:St):Prop:=
 ∀ (E:Env) (a:Act) (w:World) (val:Nat->Value) (ow:Nat->Option Nat),E.G=G->Sim E N st a w val ow->c.wp P (fun e a' w'=>(∀ t∈pins,a'.tmps.getD t undef=a.tmps.getD t undef)/\∃ st' val' ow',Q e st'/\Sim E N st' a' w' val' ow') a w
def b1n (K:St->Prop) (Q:Exit->St->Prop):Exit->St->Prop
 | .normal,st=>K st
 | e,st=>Q e st
def a8s (id:Nat) (Q:Exit->St->Prop):Exit->St->Prop
 | .exit id',st=>if id'=id then Q .normal st else Q (.exit id') st
 | e,st=>Q e st
def b95 (st:St) (N:Nat):X->Option Bool
 | .t t=>if t < N then (match st.s t with | .lit (.bool b)=>some b | _=>none) else none
 | .c (.bool b)=>some b
 | _=>none
section
variable {N:Nat} {st:St} {P:Program} {G:GG} {Q:Exit->St->Prop} {pins:List Nat}
theorem AWp.skip (h:Q .normal st):AWp P G N pins .skip Q st:=fun E a w val ow _ hs=>wp_skip ⟨fun _ _=>rfl,st,val,ow,h,hs⟩
theorem AWp.label {l:Nat} (h:Q .normal st):AWp P G N pins (.label l) Q st:=fun E a w val ow _ hs=>wp_label ⟨fun _ _=>rfl,st,val,ow,h,hs⟩
theorem AWp.exit {id:Nat} (h:Q (.exit id) st):AWp P G N pins (.exit id) Q st:=fun E a w val ow _ hs=>wp_exit ⟨fun _ _=>rfl,st,val,ow,h,hs⟩
theorem AWp.ret (h:Q .ret st):AWp P G N pins .ret Q st:=fun E a w val ow _ hs=>wp_ret ⟨fun _ _=>rfl,st,val,ow,h,hs⟩
theorem AWp.seq {x y:Code} (h:AWp P G N pins x (b1n (AWp P G N pins y Q) Q) st):AWp P G N pins (.seq x y) Q st:=fun E a w val ow hG hs=>
 wp_seq (wp_mono (h E a w val ow hG hs) fun e a' w' ⟨hp,st',val',ow',hq,hs'⟩=>by
  cases e<;>first | exact wp_mono (hq E a' w' val' ow' hG hs') (fun e2 a2 w2 ⟨hp2,hx⟩=>⟨fun t ht=>(hp2 t ht).trans (hp t ht),hx⟩) | exact ⟨hp,st',val',ow',hq,hs'⟩)
theorem AWp.block {id:Nat} {c:Code} (h:AWp P G N pins c (a8s id Q) st):AWp P G N pins (.block id c) Q st:=fun E a w val ow hG hs=>
 wp_block (wp_mono (h E a w val ow hG hs) fun e a' w' ⟨hp,st',val',ow',hq,hs'⟩=>by
  cases e<;>first | exact ⟨hp,st',val',ow',hq,hs'⟩ | skip
  rename_i id'
  simp only [a8s] at hq
  simp only [Exit.inBlock]
  split
  ·rename_i he; rw [if_pos he] at hq; exact ⟨hp,st',val',ow',hq,hs'⟩
  ·rename_i he; rw [if_neg he] at hq; exact ⟨hp,st',val',ow',hq,hs'⟩)
theorem AWp.cond {c:X} {x y:Code} {b:Bool} (hc:b95 st N c=some b) (h:AWp P G N pins (if b then x else y) Q st):AWp P G N pins (.cond c.op x y) Q st:=fun E a w val ow hG hs=>by
 refine wp_cond (t:=b) ?_ (h E a w val ow hG hs)
 unfold b95 at hc
 split at hc
 ·rename_i t
  split at hc
  ·rename_i ht
   split at hc
   ·rename_i b' hb
    simp only [Option.some.injEq] at hc
    subst hc
    have:=hs.slots t
    rw [hb] at this
    simp only [R] at this
    exact (hs.eval_t ht).trans this
   ·cases hc
  ·cases hc
 ·simp only [Option.some.injEq] at hc
  subst hc; rfl
 ·cases hc
theorem AWp.region {id:Nat} {l:List Oper} {ios:List AO} (hm:l.map o3=ios.map AO.e3) (hok:b9e P N ios=true) (hpin:∀ io∈ios,∀ t∈pins,io.dst≠some t) (h:a8l P G N ios (Q .normal) st):AWp P G N pins (.region id l.toArray false) Q st:=fun E a w val ow hG hs=>
 wp_region_lit (b5i (a0:=a) (by simpa using hm) hok hpin hG (fun st' a' w' val' ow' hk hp hs'=>⟨hp,st',val',ow',hk,hs'⟩) l ios hm (fun _ h=>h) (fun _ _=>rfl) hs h)
theorem AWp.loop {ι:Type} {c:Code} (I:ι->St->Prop) (μ:ι->Nat) (i0:ι) (h0:I i0 st) (round:∀ i st,I i st->AWp P G N pins c (b1n (fun st'=>∃ i',I i' st'/\μ i' < μ i) Q) st):AWp P G N pins (.loop c) Q st:=fun E a0 w val ow hG hs=>by
 let T:Act->World->Nat->Prop:=fun a w n=>(∀ t∈pins,a.tmps.getD t undef=a0.tmps.getD t undef)/\∃ i st val ow,I i st/\Sim E N st a w val ow/\μ i=n
 have hex:∀ a w,(∃ n,T a w n)->∃ n,T a w n/\∀ m,T a w m->n<=m:=fun a w ⟨n,hn⟩=>by
  induction n using Nat.strongRecOn with
  | _ n ih=>
   by_cases hx:∃ m,m < n/\T a w m
   ·obtain ⟨m,hm,hT⟩:=hx; exact ih m hm hT
   ·exact ⟨n,hn,fun m hm=>Nat.le_of_not_lt fun hlt=>hx ⟨m,hlt,hm⟩⟩
 let μ':Act->World->Nat:=fun a w=>if h:∃ n,T a w n then Classical.choose (hex a w h) else 0
 refine wp_loop (fun a w=>∃ n,T a w n) μ' ⟨μ i0,fun _ _=>rfl,i0,st,val,ow,h0,hs,rfl⟩ (fun a w hT=> ?_)
 have hmu:μ' a w=Classical.choose (hex a w hT):=dif_pos hT
 obtain ⟨⟨hp0,i,st1,val1,ow1,hI,hs1,hi⟩,hmin⟩:=Classical.choose_spec (hex a w hT)
 rw [<-hmu] at hi
 refine wp_mono (round i st1 hI E a w val1 ow1 hG hs1) fun e a' w' ⟨hp,st',val',ow',hq,hs'⟩=> ?_
 have hp':∀ t∈pins,a'.tmps.getD t undef=a0.tmps.getD t undef:=fun t ht=>(hp t ht).trans (hp0 t ht)
 cases e<;>first | exact ⟨hp',st',val',ow',hq,hs'⟩ | skip
 obtain ⟨i',hI',hlt⟩:=hq
 have hT':∃ n,T a' w' n:=⟨μ i',hp',i',st',val',ow',hI',hs',rfl⟩
 refine ⟨hT',?_⟩
 have hmu':μ' a' w'=Classical.choose (hex a' w' hT'):=dif_pos hT'
 have:=(Classical.choose_spec (hex a' w' hT')).2 (μ i') ⟨hp',i',st',val',ow',hI',hs',rfl⟩
 rw [<-hmu'] at this
 omega
theorem AWp.mono {c:Code} {Q':Exit->St->Prop} (h:AWp P G N pins c Q st) (hq:∀ e st,Q e st->Q' e st):AWp P G N pins c Q' st:=fun E a w val ow hG hs=>
 wp_mono (h E a w val ow hG hs) fun e a' w' ⟨hp,st',val',ow',h1,h2⟩=>⟨hp,st',val',ow',hq _ _ h1,h2⟩
end
end Go.Ideal
end
