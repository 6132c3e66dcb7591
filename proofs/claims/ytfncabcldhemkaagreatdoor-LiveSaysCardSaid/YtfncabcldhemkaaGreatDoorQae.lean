/- Part Qae of the proof: walks on a machine that is proved sound. -/
import Derived.Test.YtfncabcldhemkaaGreatDoorQad
set_option linter.unusedVariables false
set_option linter.unusedSimpArgs false
section
namespace Go.Ideal
theorem a5l {N:Nat} {α β:Type}:∀ (x:Ev α) (f:α->Ev β) (st:St) (sw:List Nat),(x >>=f).runF N st sw=(x.runF N st sw).bind fun r=>((f r.a).runF N r.st r.sw).map fun r2=>{ r2 with rd:=r.rd++r2.rd,wr:=r.wr++r2.wr }
 | .ret a,f,st,sw=>by
  show (f a).runF N st sw=_
  simp [Ev.runF]
 | .fail,f,st,sw=>rfl
 | .get t k,f,st,sw=>by
  show (Ev.get t fun v e=>k v e >>=f).runF N st sw=_
  simp only [Ev.runF]
  split
  ·rw [a5l]
   cases (k (st.s t) (st.ep t)).runF N st sw with
   | none=>rfl
   | some r=>simp [Function.comp_def]
  ·rfl
 | .getv t k,f,st,sw=>by
  show (Ev.getv t fun v=>k v >>=f).runF N st sw=_
  simp only [Ev.runF]
  split
  ·rw [a5l]
   cases (k (st.s t)).runF N st sw with
   | none=>rfl
   | some r=>simp [Function.comp_def]
  ·split
   ·rw [a5l]
   ·rfl
 | .put t v k,f,st,sw=>by
  show (Ev.put t v (k >>=f)).runF N st sw=_
  simp only [Ev.runF]
  split
  ·rw [a5l]
   cases k.runF N (st.put t v) sw with
   | none=>rfl
   | some r=>simp [Function.comp_def]
  ·rw [a5l]
 | .upd t v k,f,st,sw=>by
  show (Ev.upd t v (k >>=f)).runF N st sw=_
  simp only [Ev.runF]
  split
  ·rw [a5l]
   cases k.runF N (st.set t v) sw with
   | none=>rfl
   | some r=>simp [Function.comp_def]
  ·rw [a5l]
 | .kill t q o m k,f,st,sw=>by
  show (Ev.kill t q o m (k >>=f)).runF N st sw=_
  simp only [Ev.runF]
  rw [a5l]
  cases k.runF N (st.kill t q o m) sw with
  | none=>rfl
  | some r=>simp [Function.comp_def]
def a3z:AV->Option Nat
 | .ref t _ _ _=>some t
 | .bor t _ _ _ _=>some t
 | _=>none
def FpP (D:Nat->Prop) (N:Nat) {α:Type} (e:Ev α) (st:St) (sw:List Nat) (Post:α->St->List Nat->Prop):Prop:=
 ∀ a st',e.run st=some (a,st')->∃ rd wr sw',e.runF N st sw=some ⟨a,st',rd,wr,sw'⟩/\(∀ t∈rd,D t)/\(∀ t∈wr,D t)/\Post a st' sw'
section
variable {D:Nat->Prop} {N:Nat} {α β:Type} {st:St} {sw:List Nat} {Post:β->St->List Nat->Prop} {f:α->Ev β}
theorem FpP.bindM {x:Ev α} (h:FpP D N x st sw (fun a st' sw'=>FpP D N (f a) st' sw' Post)):FpP D N (x >>=f) st sw Post:=by
 intro a st' hr
 rw [Ev.run_bind] at hr
 cases hx:x.run st with
 | none=>rw [hx] at hr; cases hr
 | some r=>
  obtain ⟨b,st1⟩:=r
  rw [hx] at hr
  obtain ⟨rd,wr,sw1,h1,h2,h3,h4⟩:=h b st1 hx
  obtain ⟨rd2,wr2,sw2,g1,g2,g3,g4⟩:=h4 a st' hr
  refine ⟨rd++rd2,wr++wr2,sw2,?_,?_,?_,g4⟩
  ·rw [a5l,h1]; simp only [Option.bind,g1,Option.map]
  ·intro t ht; rcases List.mem_append.1 ht with ht | ht; exact h2 t ht; exact g2 t ht
  ·intro t ht; rcases List.mem_append.1 ht with ht | ht; exact h3 t ht; exact g3 t ht
theorem FpP.mono {Q:α->St->List Nat->Prop} {P:α->St->List Nat->Prop} {x:Ev α} (h:FpP D N x st sw P) (hpq:∀ a st' sw',P a st' sw'->Q a st' sw'):FpP D N x st sw Q:=by
 intro a st' hr
 obtain ⟨rd,wr,sw1,h1,h2,h3,h4⟩:=h a st' hr
 exact ⟨rd,wr,sw1,h1,h2,h3,hpq _ _ _ h4⟩
theorem FpP.ret {a:α} {P:α->St->List Nat->Prop} (h:P a st sw):FpP D N (Ev.ret a) st sw P:=by
 intro b st' hr
 simp only [Ev.run,Option.some.injEq,Prod.mk.injEq] at hr
 obtain ⟨rfl,rfl⟩:=hr
 exact ⟨[],[],sw,rfl,by simp,by simp,h⟩
theorem FpP.fail {P:α->St->List Nat->Prop}:FpP D N (Ev.fail:Ev α) st sw P:=by
 intro b st' hr; cases hr
theorem FpP.get {t:Nat} {P:(AV×Nat)->St->List Nat->Prop} (hD:D t) (hN:t < N) (h:P (st.s t,st.ep t) st sw):FpP D N (b4x t) st sw P:=by
 intro b st' hr
 rw [a2j] at hr
 simp only [Option.some.injEq,Prod.mk.injEq] at hr
 obtain ⟨rfl,rfl⟩:=hr
 exact ⟨[t],[],sw,by simp [b4x,Ev.runF,hN],by simpa using hD,by simp,h⟩
theorem FpP.getv {t:Nat} {P:AV->St->List Nat->Prop} (hN:¬ t < N) (hs:t∈sw) (h:P (st.s t) st sw):FpP D N (c4p t) st sw P:=by
 intro b st' hr
 rw [a6e] at hr
 simp only [Option.some.injEq,Prod.mk.injEq] at hr
 obtain ⟨rfl,rfl⟩:=hr
 exact ⟨[],[],sw,by simp [c4p,Ev.runF,hN,hs],by simp,by simp,h⟩
theorem FpP.put {t:Nat} {v:AV} {P:Unit->St->List Nat->Prop} (hD:D t) (hN:t < N) (h:P () (st.put t v) sw):FpP D N (a3w t v) st sw P:=by
 intro b st' hr
 rw [a7y] at hr
 simp only [Option.some.injEq,Prod.mk.injEq,true_and] at hr
 subst hr
 exact ⟨[],[t],sw,by simp [a3w,Ev.runF,hN],by simp,by simpa using hD,h⟩
theorem FpP.putN {t:Nat} {v:AV} {P:Unit->St->List Nat->Prop} (hN:¬ t < N) (h:P () (st.put t v) (t::sw)):FpP D N (a3w t v) st sw P:=by
 intro b st' hr
 rw [a7y] at hr
 simp only [Option.some.injEq,Prod.mk.injEq,true_and] at hr
 subst hr
 exact ⟨[],[],t::sw,by simp [a3w,Ev.runF,hN],by simp,by simp,h⟩
theorem FpP.upd {t:Nat} {v:AV} {P:Unit->St->List Nat->Prop} (hD:D t) (hN:t < N) (h:P () (st.set t v) sw):FpP D N (b5c t v) st sw P:=by
 intro b st' hr
 rw [c6m] at hr
 simp only [Option.some.injEq,Prod.mk.injEq,true_and] at hr
 subst hr
 exact ⟨[],[t],sw,by simp [b5c,Ev.runF,hN],by simp,by simpa using hD,h⟩
theorem FpP.kill {t o m:Nat} {q:List Nat} {P:Unit->St->List Nat->Prop} (hD:∀ u,u < N->D u) (h:P () (st.kill t q o m) sw):FpP D N (c7g t q o m) st sw P:=by
 intro a st' hr
 rw [c3i] at hr
 simp only [Option.some.injEq,Prod.mk.injEq,true_and] at hr
 subst hr
 exact ⟨List.range N++[],List.range N++[],sw,rfl,fun u hu=>hD u (by simpa using hu),fun u hu=>hD u (by simpa using hu),h⟩
theorem FpP.guard {b:Bool} {P:Unit->St->List Nat->Prop} (h:b=true->P () st sw):FpP D N (a0o b) st sw P:=by
 cases b
 ·exact FpP.fail
 ·exact FpP.ret (h rfl)
theorem FpP.opt {o:Option α} {P:α->St->List Nat->Prop} (h:∀ a,o=some a->P a st sw):FpP D N (a4z o) st sw P:=by
 cases o
 ·exact FpP.fail
 ·exact FpP.ret (h _ rfl)
structure XO (D:Nat->Prop) (N:Nat) (st:St) (x:X):Prop where
 t:∀ t,x= .t t->D t/\t < N
 b:∀ u,a3z (rdv st x)=some u->D u/\u < N
theorem FpP.read {x:X} {P:(AV×Nat)->St->List Nat->Prop} (hx:XO D N st x) (h:P (rdv st x,rde st x) st sw):FpP D N (a20 x) st sw P:=by
 cases x with
 | t t=>exact FpP.get (hx.t t rfl).1 (hx.t t rfl).2 h
 | _=>exact FpP.ret h
theorem FpP.tmp {x:X} {P:Nat->St->List Nat->Prop} (h:∀ t,x= .t t->P t st sw):FpP D N (b8m x) st sw P:=by
 cases x with
 | t t=>exact FpP.ret (h t rfl)
 | _=>exact FpP.fail
theorem FpP.setD {d:Option Nat} {v:AV} {P:Unit->St->List Nat->Prop} (hd:∀ t,d=some t->D t/\t < N) (h:∀ t,d=some t->P () (st.put t v) sw):FpP D N (setD d v) st sw P:=by
 cases d with
 | none=>exact FpP.fail
 | some t=>exact FpP.put (hd t rfl).1 (hd t rfl).2 (h t rfl)
theorem FpP.thru {d:Option Nat} {v:AV} {M:Nat} {P:Unit->St->List Nat->Prop} (hM:N<=M) (hd:∀ t,d=some t->D t/\t < N) (h:∀ st' sw',P () st' sw'):FpP D N (a43 M d v) st sw P:=
 FpP.bindM (FpP.putN (Nat.not_lt.2 hM) (FpP.bindM (FpP.putN (Nat.not_lt.2 hM) (FpP.setD hd fun _ _=>h _ _))))
end
abbrev tt {α:Type}:α->St->List Nat->Prop:=fun _ _ _=>True
section
variable {D:Nat->Prop} {N:Nat} {st:St} {sw:List Nat} {d:Option Nat} {x y:X} {G:GG}
abbrev DD (D:Nat->Prop) (N:Nat) (d:Option Nat):Prop:=∀ t,d=some t->D t/\t < N
theorem e2r (hx:XO D N st x) (hd:DD D N d):FpP D N (mvE x d) st sw tt:=by
 refine FpP.bindM (FpP.read hx ?_)
 cases hv:rdv st x<;>simp only
 case own=>cases x<;>exact FpP.setD hd fun _ _=>trivial
 case var=>exact FpP.bindM (FpP.tmp fun t ht=>FpP.setD hd fun _ _=>trivial)
 case dead=>exact FpP.fail
 all_goals (split<;>first | exact FpP.setD hd fun _ _=>trivial | exact FpP.bindM (FpP.tmp fun t ht=>FpP.bindM (FpP.upd (hx.t t ht).1 (hx.t t ht).2 (FpP.setD hd fun _ _=>trivial))))
theorem d4q (hx:XO D N st x) (hd:DD D N d):FpP D N (d8c N x d) st sw tt:=by
 have tail:∀ v:AV,FpP D N (b0m N d x v) st sw tt:=by
  intro v
  unfold b0m
  cases x with
  | t t=>simp only; split; exact FpP.setD hd fun _ _=>trivial; exact FpP.bindM (FpP.put (hx.t t rfl).1 (hx.t t rfl).2 (FpP.thru (Nat.le_refl _) hd fun _ _=>trivial))
  | _=>simp only; split; exact FpP.setD hd fun _ _=>trivial; exact FpP.thru (Nat.le_refl _) hd fun _ _=>trivial
 refine FpP.bindM (FpP.read hx ?_)
 cases hv:rdv st x<;>simp only
 case dead=>exact FpP.fail
 case bor t q lo n e=>
  have hb:=hx.b t (by rw [hv]; rfl)
  refine FpP.bindM (FpP.get hb.1 hb.2 (FpP.bindM (FpP.guard fun _=>FpP.bindM (FpP.opt fun k hk=> ?_))))
  cases k<;>simp only<;>try exact FpP.fail
  refine FpP.bindM (FpP.guard fun _=> ?_)
  split
  ·exact FpP.bindM (FpP.put hb.1 hb.2 (FpP.thru (Nat.le_refl _) hd fun _ _=>trivial))
  ·exact FpP.bindM (FpP.upd hb.1 hb.2 (FpP.setD hd fun _ _=>trivial))
 all_goals exact tail _
theorem b18 {P:Value->St->List Nat->Prop} (hx:XO D N st x) (h:∀ v,P v st sw):FpP D N (c1a x) st sw P:=by
 refine FpP.bindM (FpP.read hx ?_)
 cases hv:rdv st x<;>simp only<;>first | exact FpP.ret (h _) | exact FpP.fail
theorem c58 {P:Int->St->List Nat->Prop} (hx:XO D N st x) (h:∀ v,P v st sw):FpP D N (c7f x) st sw P:=by
 refine FpP.bindM (b18 hx fun v=> ?_)
 cases v<;>simp only<;>first | exact FpP.ret (h _) | exact FpP.fail
theorem a8m {x:Option X} {z:Int} {P:Int->St->List Nat->Prop} (hx:∀ y,x=some y->XO D N st y) (h:∀ v,P v st sw):FpP D N (a34 x z) st sw P:=by
 cases x with
 | none=>exact FpP.ret (h _)
 | some x=>exact c58 (hx x rfl) h
theorem c9e {P:(Nat×List Nat×Nat×Nat)->St->List Nat->Prop} (hx:XO D N st x) (h:∀ t q lo n,D t->t < N->P (t,q,lo,n) st sw):FpP D N (a8h x) st sw P:=by
 refine FpP.bindM (FpP.read hx ?_)
 cases hv:rdv st x<;>simp only<;>try exact FpP.fail
 ·exact FpP.bindM (FpP.tmp fun t ht=>FpP.ret (h _ _ _ _ (hx.t t ht).1 (hx.t t ht).2))
 ·rename_i t q lo n e
  have hb:=hx.b t (by rw [hv]; rfl)
  exact FpP.bindM (FpP.get hb.1 hb.2 (FpP.bindM (FpP.guard fun _=>FpP.ret (h _ _ _ _ hb.1 hb.2))))
theorem e2t {P:(Nat×List Nat×Nat)->St->List Nat->Prop} (hx:XO D N st x) (h:∀ t q o,D t->t < N->P (t,q,o) st sw):FpP D N (c6y x) st sw P:=by
 refine FpP.bindM (FpP.read hx ?_)
 cases hv:rdv st x<;>simp only<;>try exact FpP.fail
 ·exact FpP.bindM (FpP.tmp fun t ht=>FpP.ret (h _ _ _ (hx.t t ht).1 (hx.t t ht).2))
 ·rename_i t q lo e
  have hb:=hx.b t (by rw [hv]; rfl)
  exact FpP.bindM (FpP.get hb.1 hb.2 (FpP.bindM (FpP.guard fun _=>FpP.ret (h _ _ _ hb.1 hb.2))))
theorem c0i {P:(Nat×List Nat×Nat×AV×Nat×List AV)->St->List Nat->Prop} (hx:XO D N st x) (h:∀ t q o v e ks,D t->t < N->P (t,q,o,v,e,ks) st sw):FpP D N (c77 x) st sw P:=
 FpP.bindM (e2t hx fun t q o hD hN=>FpP.bindM (FpP.get hD hN (FpP.bindM (FpP.opt fun ks _=>FpP.bindM (FpP.guard fun _=>FpP.ret (h _ _ _ _ _ _ hD hN))))))
theorem d2r {t:Nat} {q:List Nat} {P:AV->St->List Nat->Prop} (hD:D t) (hN:t < N) (h:∀ k,P k st sw):FpP D N (c97 t q) st sw P:=
 FpP.bindM (FpP.get hD hN (FpP.opt fun _ _=>h _))
theorem d58 {s:Option Nat} (hx:XO D N st x) (hd:DD D N d):FpP D N (c2x d s x) st sw tt:=by
 refine FpP.bindM (c0i hx fun t q o v e ks hD hN=> ?_)
 cases s with
 | none=>
  refine FpP.bindM (FpP.opt fun k _=> ?_)
  cases k<;>simp only [b3l]<;>first | exact FpP.setD hd fun _ _=>trivial | exact FpP.bindM (FpP.guard fun _=>FpP.setD hd fun _ _=>trivial)
 | some s=>
  refine FpP.bindM (FpP.guard fun _=> ?_)
  split
  ·exact FpP.setD hd fun _ _=>trivial
  ·exact FpP.bindM (FpP.upd hD hN (FpP.setD hd fun _ _=>trivial))
end
def BLe (N:Nat) (st st':St):Prop:=∀ t,t < N->a3z (st'.s t)=none\/a3z (st'.s t)=a3z (st.s t)
theorem BLe.refl {N:Nat} (st:St):BLe N st st:=fun t _=> .inr rfl
theorem BLe.trans {N:Nat} {a b c:St} (h:BLe N a b) (h2:BLe N b c):BLe N a c:=fun t ht=>by
 rcases h2 t ht with h3 | h3
 ·exact .inl h3
 ·rcases h t ht with h4 | h4
  ·exact .inl (h3.trans h4)
  ·exact .inr (h3.trans h4)
theorem BLe.put {N:Nat} {st:St} {t:Nat} {v:AV} (h:a3z v=none):BLe N st (st.put t v):=fun u _=>by
 simp only [St.put_s]; split
 ·exact .inl h
 ·exact .inr rfl
theorem BLe.putN {N:Nat} {st:St} {t:Nat} {v:AV} (h:¬ t < N):BLe N st (st.put t v):=fun u hu=>by
 simp only [St.put_s]; rw [if_neg (by omega)]; exact .inr rfl
theorem BLe.set {N:Nat} {st:St} {t:Nat} {v:AV} (h:a3z v=none):BLe N st (st.set t v):=fun u _=>by
 simp only [St.set_s]; split
 ·exact .inl h
 ·exact .inr rfl
theorem XO.le {D:Nat->Prop} {N:Nat} {st st':St} {x:X} (h:XO D N st x) (hl:BLe N st st'):XO D N st' x where
 t:=h.t
 b u hu:=by
  cases x with
  | t t=>
   have ht:=h.t t rfl
   simp only [rdv] at hu
   rcases hl t ht.2 with h1 | h1
   ·rw [h1] at hu; cases hu
   ·exact h.b u (by simp only [rdv]; rw [<-h1]; exact hu)
  | _=>cases hu
theorem a7r {v k:AV} {q:List Nat} {k':AV} (hk:a0h v q=some k) (h:a3z k'=none):a3z (a0x v q k')=none:=by
 cases q with
 | nil=>exact h
 | cons i q=>
  cases v<;>simp only [a0h,a00,reduceCtorEq] at hk
  ·simp only [a0x,a00]; split<;>rfl
  ·simp only [a0x,a00]; split<;>rfl
section
variable {D:Nat->Prop} {N:Nat} {st:St} {sw:List Nat} {d:Option Nat} {x y:X} {G:GG}
theorem c4m {P:Unit->St->List Nat->Prop} (hx:XO D N st x) (h:∀ st' sw',BLe N st st'->(∀ t∈sw,t∈sw')->N∈sw'->(∀ t,N < t->st'.s t=st.s t)->P () st' sw'):FpP D N (a59 x N) st sw P:=by
 have hN:¬ N < N:=Nat.lt_irrefl _
 have one:∀ {v:AV},a3z (AV.dead)=none->FpP D N (a3w N v) st sw P:=fun _=>FpP.putN hN (h _ _ (BLe.putN hN) (fun t ht=>by simp [ht]) (by simp) (fun t ht=>by simp [Nat.ne_of_gt ht]))
 have two:∀ {v:AV} (t:Nat),x= .t t->FpP D N (do a3w t .dead; a3w N v) st sw P:=fun t ht=>FpP.bindM (FpP.put (hx.t t ht).1 (hx.t t ht).2 (FpP.putN hN (h _ _ ((BLe.put rfl).trans (BLe.putN hN)) (fun t ht=>by simp [ht]) (by simp) (fun u hu=>by
  have:=(hx.t t ht).2
  simp [Nat.ne_of_gt hu,show u≠t by omega]))))
 refine FpP.bindM (FpP.read hx ?_)
 cases hv:rdv st x<;>simp only
 case dead=>exact FpP.fail
 case tup=>exact FpP.fail
 case ref=>exact FpP.fail
 case bor t q lo n e=>
  have hb:=hx.b t (by rw [hv]; rfl)
  refine FpP.bindM (FpP.get hb.1 hb.2 (FpP.bindM (FpP.guard fun _=>FpP.bindM (FpP.opt fun k hk=> ?_))))
  cases k<;>simp only<;>try exact FpP.fail
  refine FpP.bindM (FpP.guard fun _=>FpP.bindM (FpP.upd hb.1 hb.2 (FpP.putN hN (h _ _ ((BLe.set (a7r hk rfl)).trans (BLe.putN hN)) (fun t ht=>by simp [ht]) (by simp) (fun u hu=>by
   have:=hb.2
   simp [Nat.ne_of_gt hu,show u≠t by omega])))))
 case agg=>exact FpP.bindM (FpP.tmp fun t ht=>two t ht)
 case own=>
  cases x with
  | t t=>exact two t rfl
  | _=>exact one rfl
 case var=>exact FpP.bindM (FpP.tmp fun t ht=>two t ht)
 case ifc=>exact FpP.bindM (FpP.tmp fun t ht=>two t ht)
 case mp=>exact FpP.bindM (FpP.tmp fun t ht=>two t ht)
 case fn=>exact FpP.bindM (FpP.guard fun _=>one rfl)
 all_goals exact FpP.bindM (FpP.guard fun _=>one rfl)
theorem c2i {j:Nat} {P:List AV->St->List Nat->Prop} (hN:¬ j < N) (hs:j∈sw) (h:∀ ks,P ks st sw):FpP D N (c3s j) st sw P:=by
 refine FpP.bindM (FpP.getv hN hs ?_)
 cases st.s j<;>simp only<;>first | exact FpP.ret (h _) | exact FpP.fail
theorem e2l {T:TypeId} {sz:Nat} (hx:XO D N st x) (hd:DD D N d):FpP D N (a1q G N d (.box T sz x)) st sw tt:=by
 have hN:¬ N < N:=Nat.lt_irrefl _
 exact FpP.bindM (c4m hx fun st' sw' _ _ hs _=>FpP.bindM (c2i hN hs fun ks=>FpP.bindM (FpP.guard fun _=>FpP.thru (Nat.le_refl _) hd fun _ _=>trivial)))
theorem c0h:∀ (l:List (Nat×Nat×X)) {st:St} {sw:List Nat} {P:Unit->St->List Nat->Prop},(∀ p∈l,XO D N st p.2.2)->(N+1)∈sw->(∀ st' sw',(N+1)∈sw'->P () st' sw')->FpP D N (b2c N l) st sw P
 | [],st,sw,P,_,hs,h=>FpP.ret (h _ _ hs)
 | (off,sz,x)::rest,st,sw,P,hx,hs,h=>by
  have hN:¬ N < N:=Nat.lt_irrefl _
  have hN1:¬ N+1 < N:=by omega
  refine FpP.bindM (c4m (hx (off,sz,x) (by simp)) fun st1 sw1 hb hsw hNs _=>FpP.bindM (c2i hN hNs fun ks=>FpP.bindM (c2i hN1 (hsw _ hs) fun zs=>FpP.bindM (FpP.guard fun _=>FpP.bindM (FpP.putN hN (FpP.bindM (FpP.putN hN1 ?_)))))))
  exact c0h rest (fun p hp=>(hx p (by simp [hp])).le (hb.trans ((BLe.put rfl).trans (BLe.putN hN1)))) (by simp) h
theorem d2j {T:TypeId} {zs:List AV} {parts:List (Nat×Nat×Nat×X)} (hx:∀ p∈parts,XO D N st p.2.2.2) (hd:DD D N d):FpP D N (a1q G N d (.build T zs parts)) st sw tt:=by
 have hN1:¬ N+1 < N:=by omega
 refine FpP.bindM (FpP.putN hN1 (FpP.bindM (c0h _ (fun p hp=> ?_) (by simp) fun st' sw' hs=>FpP.bindM (c2i hN1 hs fun ks=>FpP.bindM (FpP.putN hN1 (FpP.setD hd fun _ _=>trivial))))))
 obtain ⟨r,hr,rfl⟩:=List.mem_map.1 hp
 exact (hx r hr).le (BLe.putN hN1)
theorem c9f {T e:TypeId} {sz len:Nat} {zs:List AV} {parts:List (Nat×X)} (hx:∀ p∈parts,XO D N st p.2) (hd:DD D N d):FpP D N (a1q G N d (.bslice T e sz len zs parts)) st sw tt:=by
 have hN1:¬ N+1 < N:=by omega
 refine FpP.bindM (FpP.putN hN1 (FpP.bindM (c0h _ (fun p hp=> ?_) (by simp) fun st' sw' hs=>FpP.bindM (c2i hN1 hs fun ks=>FpP.thru (by omega) hd fun _ _=>trivial))))
 obtain ⟨r,hr,rfl⟩:=List.mem_map.1 hp
 exact (hx r hr).le (BLe.putN hN1)
theorem d2u {T:TypeId} {s:Nat} (hx:XO D N st x) (hy:XO D N st y) (hd:d=none) (hk:∀ r,giv st N y (rdv st y)=some r->a1c r.2=true\/∀ t,t < N->D t):FpP D N (a1q G N d (.store T s x y)) st sw tt:=by
 have hN:¬ N < N:=Nat.lt_irrefl _
 refine FpP.bindM (FpP.guard fun _=> ?_)
 have hg:FpP D N (a59 y N) st sw (fun _ st' sw'=>(BLe N st st'/\N∈sw')/\∃ r,giv st N y (rdv st y)=some r/\st'.s N= .agg r.2):=by
  intro a st' hr
  obtain ⟨rd,wr,sw',h1,h2,h3,h4⟩:=c4m (P:=fun _ st' sw'=>BLe N st st'/\N∈sw') (sw:=sw) hy (fun st' sw' h1 _ h2 _=>⟨h1,h2⟩) a st' hr
  refine ⟨rd,wr,sw',h1,h2,h3,h4,?_⟩
  rw [b38] at hr
  cases hgv:giv st N y (rdv st y) with
  | none=>rw [hgv] at hr; cases hr
  | some r=>
   rw [hgv] at hr
   simp only [Option.map,Option.some.injEq,Prod.mk.injEq,true_and] at hr
   exact ⟨r,rfl,by rw [<-hr]; simp⟩
 refine FpP.bindM (FpP.mono hg fun a st' sw' ⟨⟨hb,hs⟩,r,hr,hsN⟩=> ?_)
 have hno:=hk r hr
 refine FpP.bindM (FpP.mono (c0i (P:=fun p st2 sw2=>(D p.1/\p.1 < N)/\st2=st'/\sw2=sw') (hx.le hb) fun t q o v e ks hD htN=>⟨⟨hD,htN⟩,rfl,rfl⟩) ?_)
 rintro ⟨t,q,o,v,e,ks⟩ st2 sw2 ⟨⟨hD,htN⟩,rfl,rfl⟩
 refine FpP.bindM (FpP.mono (P:=fun ks2 st3 sw3=>ks2=r.2/\st3=st2/\sw3=sw2) (FpP.bindM (FpP.getv hN hs (by rw [hsN]; exact FpP.ret ⟨rfl,rfl,rfl⟩))) ?_)
 rintro cs st3 sw3 ⟨rfl,rfl,rfl⟩
 refine FpP.bindM (FpP.guard fun _=>FpP.bindM (FpP.putN hN ?_))
 rcases hno with hno | hall
 ·rw [if_pos hno]
  exact FpP.upd hD htN trivial
 ·split
  ·exact FpP.upd hD htN trivial
  ·exact FpP.bindM (FpP.kill hall (FpP.upd hD htN trivial))
theorem d2q (hx:XO D N st x) (hd:DD D N d):FpP D N (a1q G N d (.nilck x)) st sw tt:=by
 refine FpP.bindM (FpP.read hx ?_)
 cases hv:rdv st x<;>simp only<;>first | exact FpP.setD hd fun _ _=>trivial | exact FpP.bindM (c0i hx fun _ _ _ _ _ _ _ _=>FpP.setD hd fun _ _=>trivial)
theorem d2l {T:TypeId} {off f:Nat} (hx:XO D N st x) (hd:DD D N d):FpP D N (a1q G N d (.faddr T off x f)) st sw tt:=by
 refine FpP.bindM (FpP.read hx ?_)
 cases hv:rdv st x<;>simp only<;>first | exact FpP.setD hd fun _ _=>trivial | exact FpP.bindM (c0i hx fun _ _ _ _ _ _ _ _=>FpP.setD hd fun _ _=>trivial)
theorem c9g {T:TypeId} {s:Option Nat} (hx:XO D N st x) (hd:DD D N d):FpP D N (a1q G N d (.load T s x)) st sw tt:=by
 refine FpP.bindM (FpP.read hx ?_)
 simp only
 split
 ·exact FpP.bindM (FpP.opt fun _ _=>FpP.setD hd fun _ _=>trivial)
 ·exact FpP.bindM (FpP.opt fun _ _=>FpP.bindM (FpP.guard fun _=>FpP.setD hd fun _ _=>trivial))
 ·exact FpP.bindM (FpP.guard fun _=>FpP.setD hd fun _ _=>trivial)
 ·exact d58 hx hd
theorem d2n {T:TypeId} {sz:Nat} {i:X} (hx:XO D N st x) (hi:XO D N st i) (hd:DD D N d):FpP D N (a1q G N d (.iaddr T sz x i)) st sw tt:=by
 refine FpP.bindM (c58 hi fun n=>FpP.bindM (FpP.guard fun _=>FpP.bindM (FpP.read hx ?_)))
 have rest:FpP D N (do
   let (t,q,lo,m)<-a8h x
   a0o (decide (n < (m:Int)))
   let v<-b4x t
   let k<-a4z (a0h v.1 q)
   match k with
   | .own sz' n0 _=>do
    a0o (sz'==sz&&decide (lo+m<=n0))
    setD d (.ref t q ((lo+n.toNat)*sz) v.2)
   | _=> .fail) st sw tt:=by
  refine FpP.bindM (c9e hx fun t q lo m hD hN=>FpP.bindM (FpP.guard fun _=>FpP.bindM (FpP.get hD hN (FpP.bindM (FpP.opt fun k _=> ?_)))))
  cases k<;>simp only<;>first | exact FpP.fail | exact FpP.bindM (FpP.guard fun _=>FpP.setD hd fun _ _=>trivial)
 cases hv:rdv st x<;>simp only<;>first | exact FpP.bindM (FpP.guard fun _=>FpP.setD hd fun _ _=>trivial) | exact rest
theorem d2o {T:TypeId} {b:Bool} (hx:XO D N st x) (hd:DD D N d):FpP D N (a1q G N d (.len T b x)) st sw tt:=by
 cases b with
 | true=>
  refine FpP.bindM (b18 hx fun v=> ?_)
  cases v<;>simp only<;>first | exact FpP.fail | exact FpP.setD hd fun _ _=>trivial
 | false=>
  refine FpP.bindM (FpP.read hx ?_)
  have rest:FpP D N (do
   let (t,q,lo,n)<-a8h x
   let k<-c97 t q
   match k with
   | .own _ n0 _=>do
    a0o (decide (lo+n<=n0))
    setD d (.lit (.int .i64 n))
   | _=> .fail) st sw tt:=by
   refine FpP.bindM (c9e hx fun t q lo m hD hN=>FpP.bindM (d2r hD hN fun k=> ?_))
   cases k<;>simp only<;>first | exact FpP.fail | exact FpP.bindM (FpP.guard fun _=>FpP.setD hd fun _ _=>trivial)
  cases hv:rdv st x<;>simp only<;>first | exact FpP.setD hd fun _ _=>trivial | exact rest
theorem e2k {b:BinOp} {T kd:Nat} {yT:TypeId} (hx:XO D N st x) (hy:XO D N st y) (hd:DD D N d):FpP D N (a1q G N d (.bin b T kd x y yT)) st sw tt:=
 FpP.bindM (FpP.read hx (FpP.bindM (FpP.read hy (FpP.bindM (FpP.opt fun _ _=>FpP.setD hd fun _ _=>trivial)))))
theorem e96 {u:UnOp} {T:TypeId} (hx:XO D N st x) (hd:DD D N d):FpP D N (a1q G N d (.un u T x)) st sw tt:=
 FpP.bindM (b18 hx fun _=>FpP.bindM (FpP.opt fun _ _=>FpP.setD hd fun _ _=>trivial))
theorem d6b {c:X} (hc:XO D N st c) (hx:XO D N st x) (hy:XO D N st y) (hd:DD D N d):FpP D N (a1q G N d (.pick c x y)) st sw tt:=
 FpP.bindM (b18 hc fun _=>FpP.bindM (FpP.read hx (FpP.bindM (FpP.read hy (FpP.bindM (FpP.opt fun _ _=>FpP.setD hd fun _ _=>trivial))))))
theorem d2i {T:TypeId} {zs:List AV} (hd:DD D N d):FpP D N (a1q G N d (.alloc T zs)) st sw tt:=FpP.thru (Nat.le_refl _) hd fun _ _=>trivial
theorem d2k {s t:TypeId} {k:IntKind} (hx:XO D N st x) (hd:DD D N d):FpP D N (a1q G N d (.conv s t (.int k) x)) st sw tt:=by
 refine FpP.bindM (b18 hx fun v=> ?_)
 cases v<;>simp only<;>first | exact FpP.fail | exact FpP.setD hd fun _ _=>trivial
theorem e2p {T:TypeId} (hx:XO D N st x) (hd:DD D N d):FpP D N (a1q G N d (.mki T x)) st sw tt:=by
 refine FpP.bindM (FpP.read hx ?_)
 cases hv:rdv st x<;>simp only<;>first | exact FpP.fail | exact FpP.setD hd fun _ _=>trivial | exact FpP.bindM (FpP.tmp fun t ht=>FpP.bindM (FpP.upd (hx.t t ht).1 (hx.t t ht).2 (FpP.setD hd fun _ _=>trivial)))
theorem e2q {T e:TypeId} {sz by_:Nat} {zs:List AV} (hx:XO D N st x) (hy:XO D N st y) (hd:DD D N d):FpP D N (a1q G N d (.mks T e sz by_ zs x y)) st sw tt:=
 FpP.bindM (c58 hx fun _=>FpP.bindM (c58 hy fun _=>FpP.bindM (FpP.guard fun _=>FpP.thru (Nat.le_refl _) hd fun _ _=>trivial)))
theorem e2n {i:Nat} (hx:XO D N st x) (hd:DD D N d):FpP D N (a1q G N d (.ext x i)) st sw tt:=by
 refine FpP.bindM (FpP.read hx ?_)
 cases hv:rdv st x<;>simp only<;>try exact FpP.fail
 refine FpP.bindM (FpP.opt fun k _=> ?_)
 split
 ·exact FpP.setD hd fun _ _=>trivial
 ·exact FpP.bindM (FpP.tmp fun t ht=>FpP.bindM (FpP.put (hx.t t ht).1 (hx.t t ht).2 (FpP.thru (Nat.le_refl _) hd fun _ _=>trivial)))
theorem e2o {T off f:Nat} (hx:XO D N st x) (hd:DD D N d):FpP D N (a1q G N d (.fld T off x f)) st sw tt:=by
 refine FpP.bindM (FpP.read hx ?_)
 cases hv:rdv st x<;>simp only<;>try exact FpP.fail
 exact FpP.bindM (FpP.opt fun k _=>FpP.bindM (FpP.guard fun _=>FpP.setD hd fun _ _=>trivial))
theorem d4r {P:Int->St->List Nat->Prop} (hx:XO D N st x) (h:∀ v,P v st sw):FpP D N (d6h x) st sw P:=by
 refine FpP.bindM (b18 hx fun v=> ?_)
 split
 ·exact FpP.ret (h _)
 ·exact FpP.fail
theorem c9h {P:(Nat×List Nat×AV×List Int×List AV)->St->List Nat->Prop} (hx:XO D N st x) (h:∀ t q v keys vals,D t->t < N->P (t,q,v,keys,vals) st sw):FpP D N (d6r x) st sw P:=by
 refine FpP.bindM (FpP.read hx ?_)
 cases hv:rdv st x<;>simp only<;>try exact FpP.fail
 rename_i t q lo n e
 have hb:=hx.b t (by rw [hv]; rfl)
 refine FpP.bindM (FpP.get hb.1 hb.2 (FpP.bindM (FpP.guard fun _=>FpP.bindM (FpP.opt fun k _=> ?_))))
 cases k<;>simp only<;>first | exact FpP.fail | exact FpP.ret (h _ _ _ _ _ hb.1 hb.2)
theorem d2p {T:TypeId} (hd:DD D N d):FpP D N (a1q G N d (.mkmap T)) st sw tt:=FpP.thru (Nat.le_refl _) hd fun _ _=>trivial
theorem d59 {T e:TypeId} {zs:List AV} (hx:XO D N st x) (hy:XO D N st y) (hd:DD D N d):FpP D N (a1q G N d (.mget T e zs x y)) st sw tt:=by
 refine FpP.bindM (c9h hx fun t q v keys vals _ _=>FpP.bindM (d4r hy fun n=> ?_))
 split
 ·exact FpP.bindM (FpP.guard fun _=>FpP.setD hd fun _ _=>trivial)
 ·exact FpP.bindM (FpP.guard fun _=>FpP.setD hd fun _ _=>trivial)
theorem d6a {T e:TypeId} {z:X} (hx:XO D N st x) (hy:XO D N st y) (hz:XO D N st z):FpP D N (a1q G N d (.mset T e x y z)) st sw tt:=
 FpP.bindM (FpP.guard fun _=>FpP.bindM (c9h hx fun t q v keys vals hD hN=>FpP.bindM (d4r hy fun n=>FpP.bindM (FpP.read hz (FpP.bindM (FpP.guard fun _=>FpP.upd hD hN trivial))))))
theorem e2v {xT T:TypeId} {zs:List AV} (hx:XO D N st x) (hd:DD D N d):FpP D N (a1q G N d (.tas x xT T zs)) st sw tt:=by
 refine FpP.bindM (FpP.read hx ?_)
 simp only
 split
 ·exact FpP.setD hd fun _ _=>trivial
 ·exact FpP.setD hd fun _ _=>trivial
 ·exact FpP.bindM (FpP.guard fun _=>FpP.setD hd fun _ _=>trivial)
 ·exact FpP.fail
theorem e95 {mx:Bool} {ts:List TypeId} (hx:XO D N st x) (hy:XO D N st y) (hd:DD D N d):FpP D N (a1q G N d (.mm mx ts [x,y])) st sw tt:=by
 refine FpP.bindM (b18 hx fun u=>FpP.bindM (b18 hy fun v=> ?_))
 split
 ·exact FpP.bindM (FpP.guard fun _=>FpP.setD hd fun _ _=>trivial)
 ·exact FpP.fail
theorem e2m {b:BinOp} {T tp te:TypeId} {yT:TypeId} (hx:XO D N st x) (hy:XO D N st y) (hd:DD D N d):FpP D N (a1q G N d (.eqs b T tp te x y yT)) st sw tt:=by
 refine FpP.bindM (b18 hx fun u=>FpP.bindM (b18 hy fun v=> ?_))
 split
 ·refine FpP.bindM (FpP.guard fun _=> ?_)
  split<;>first | exact FpP.setD hd fun _ _=>trivial | exact FpP.fail
 ·exact FpP.fail
end
open Classical
section
variable {D:Nat->Prop} {N:Nat} {st:St} {sw:List Nat} {d:Option Nat} {x y:X} {G:GG}
theorem d2t {T:TypeId} {sz:Nat} {lo hi:Option X} (hx:XO D N st x) (hlo:∀ y,lo=some y->XO D N st y) (hhi:∀ y,hi=some y->XO D N st y) (hd:DD D N d):FpP D N (a1q G N d (.slice T sz x lo hi none)) st sw tt:=by
 refine FpP.bindM (FpP.read hx ?_)
 have rest:FpP D N (do
   a0o (decide (0 < sz))
   let (t,q,lo0,n)<-a8h x
   let v<-b4x t
   let k<-a4z (a0h v.1 q)
   match k with
   | .own sz' n0 _=>do
    let l<-a34 lo 0
    let h<-a34 hi n
    a0o (decide (0<=l)&&decide (l<=h)&&decide (h<=(n:Int))&&decide (lo0+n<=n0)&&sz'==sz&&(lo0==0||l==0||decide (l < h)))
    match (none:Option X) with
    | none=>setD d (.bor t q (lo0+l.toNat) (h - l).toNat v.2)
    | some m=>do
     let m<-c7f m
     a0o (l==0&&h==0&&m==0&&hi.isSome)
     a43 N d (.own sz 0 [])
   | _=> .fail) st sw tt:=by
  refine FpP.bindM (FpP.guard fun _=>FpP.bindM (c9e hx fun t q lo0 n hD hN=>FpP.bindM (FpP.get hD hN (FpP.bindM (FpP.opt fun k _=> ?_)))))
  cases k<;>simp only<;>try exact FpP.fail
  exact FpP.bindM (a8m hlo fun _=>FpP.bindM (a8m hhi fun _=>FpP.bindM (FpP.guard fun _=>FpP.setD hd fun _ _=>trivial)))
 cases hv:rdv st x
 case lit v=>
  cases v<;>simp only<;>try exact rest
  exact FpP.bindM (a8m hlo fun _=>FpP.bindM (a8m hhi fun _=>FpP.bindM (FpP.guard fun _=>FpP.setD hd fun _ _=>trivial)))
 case sl=>exact FpP.bindM (FpP.guard fun _=>FpP.bindM (a8m hlo fun _=>FpP.bindM (a8m hhi fun _=>FpP.bindM (FpP.guard fun _=>FpP.setD hd fun _ _=>trivial))))
 all_goals exact rest
theorem d6c {P:Unit->St->List Nat->Prop} (hx:XO D N st x) (h:∀ st' sw',BLe N st st'->N∈sw'->P () st' sw'):FpP D N (c5m x N) st sw P:=by
 have hN:¬ N < N:=Nat.lt_irrefl _
 refine FpP.bindM (FpP.read hx ?_)
 cases hv:rdv st x<;>simp only<;>try exact FpP.fail
 ·cases x with
  | t t=>exact FpP.bindM (FpP.put (hx.t t rfl).1 (hx.t t rfl).2 (FpP.putN hN (h _ _ ((BLe.put rfl).trans (BLe.putN hN)) (by simp))))
  | _=>exact FpP.putN hN (h _ _ (BLe.putN hN) (by simp))
 ·rename_i t q lo n e
  have hb:=hx.b t (by rw [hv]; rfl)
  refine FpP.bindM (FpP.get hb.1 hb.2 (FpP.bindM (FpP.guard fun _=>FpP.bindM (FpP.opt fun k hk=> ?_))))
  cases k<;>simp only<;>try exact FpP.fail
  exact FpP.bindM (FpP.guard fun _=>FpP.bindM (FpP.upd hb.1 hb.2 (FpP.putN hN (h _ _ ((BLe.set (a7r hk rfl)).trans (BLe.putN hN)) (by simp)))))
theorem e2u {P:Unit->St->List Nat->Prop} (hx:XO D N st x) (h:∀ st' sw',(∀ t∈sw,t∈sw')->N+1∈sw'->P () st' sw'):FpP D N (e0g x N) st sw P:=by
 have hN:¬ N+1 < N:=by omega
 refine FpP.bindM (FpP.read hx ?_)
 cases hv:rdv st x<;>simp only<;>try exact FpP.fail
 ·exact FpP.putN hN (h _ _ (fun t ht=>by simp [ht]) (by simp))
 ·cases x with
  | t t=>exact FpP.bindM (FpP.put (hx.t t rfl).1 (hx.t t rfl).2 (FpP.putN hN (h _ _ (fun t ht=>by simp [ht]) (by simp))))
  | _=>exact FpP.putN hN (h _ _ (fun t ht=>by simp [ht]) (by simp))
 ·rename_i t q lo n e
  have hb:=hx.b t (by rw [hv]; rfl)
  refine FpP.bindM (FpP.get hb.1 hb.2 (FpP.bindM (FpP.guard fun _=>FpP.bindM (FpP.opt fun k hk=> ?_))))
  cases k<;>simp only<;>try exact FpP.fail
  exact FpP.bindM (FpP.guard fun _=>FpP.bindM (FpP.upd hb.1 hb.2 (FpP.putN hN (h _ _ (fun t ht=>by simp [ht]) (by simp)))))
theorem e2j {T e:TypeId} {sz by_:Nat} (hx:XO D N st x) (hy:XO D N st y) (hd:DD D N d):FpP D N (a1q G N d (.app T e sz by_ x y)) st sw tt:=by
 have hN:¬ N < N:=Nat.lt_irrefl _
 have hN1:¬ N+1 < N:=by omega
 refine FpP.bindM (d6c hx fun st1 sw1 hb hs=>FpP.bindM (e2u (hy.le hb) fun st2 sw2 hsw hs1=>FpP.bindM (FpP.getv hN (hsw _ hs) (FpP.bindM (FpP.getv hN1 hs1 ?_)))))
 split
 ·exact FpP.bindM (FpP.guard fun _=>FpP.bindM (FpP.putN hN1 (FpP.thru (Nat.le_refl _) hd fun _ _=>trivial)))
 ·exact FpP.bindM (FpP.guard fun _=>FpP.bindM (FpP.putN hN1 (FpP.thru (Nat.le_refl _) hd fun _ _=>trivial)))
 ·exact FpP.fail
theorem d2m {j:Nat} (hj:N<=j) {P:Unit->St->List Nat->Prop} (hx:XO D N st x) (h:∀ st' sw',BLe N st st'->(∀ t∈sw,t∈sw')->j∈sw'->P () st' sw'):FpP D N (c4q N x j) st sw P:=by
 have hN:¬ j < N:=Nat.not_lt.2 hj
 have one:∀ {v:AV},FpP D N (a3w j v) st sw P:=FpP.putN hN (h _ _ (BLe.putN hN) (fun t ht=>by simp [ht]) (by simp))
 have tail:∀ v:AV,FpP D N (b1g x j v) st sw P:=by
  intro v
  unfold b1g
  cases x with
  | t t=>
   simp only
   split
   ·exact one
   ·exact FpP.bindM (FpP.put (hx.t t rfl).1 (hx.t t rfl).2 (FpP.putN hN (h _ _ ((BLe.put rfl).trans (BLe.putN hN)) (fun t ht=>by simp [ht]) (by simp))))
  | _=>exact one
 refine FpP.bindM (FpP.read hx ?_)
 cases hv:rdv st x<;>simp only
 case dead=>exact FpP.fail
 case bor t q lo n e=>
  have hb:=hx.b t (by rw [hv]; rfl)
  refine FpP.bindM (FpP.get hb.1 hb.2 (FpP.bindM (FpP.guard fun _=>FpP.bindM (FpP.opt fun k hk=> ?_))))
  cases k<;>simp only<;>try exact FpP.fail
  exact FpP.bindM (FpP.guard fun _=>FpP.bindM (FpP.upd hb.1 hb.2 (FpP.putN hN (h _ _ ((BLe.set (a7r hk rfl)).trans (BLe.putN hN)) (fun t ht=>by simp [ht]) (by simp)))))
 all_goals exact FpP.bindM (FpP.guard fun _=>tail _)
theorem d1s {v:AV} (h:a04 v=false):a3z (frz v)=none:=by
 cases v<;>first | rfl | simp [a04] at h
theorem d2s {j:Nat} (hj:N<=j) {P:Unit->St->List Nat->Prop} (hx:XO D N st x) (h:∀ st' sw',BLe N st st'->(∀ t∈sw,t∈sw')->j∈sw'->P () st' sw'):FpP D N (c0v N x j) st sw P:=by
 have hN:¬ j < N:=Nat.not_lt.2 hj
 have one:∀ {v:AV},FpP D N (a3w j v) st sw P:=FpP.putN hN (h _ _ (BLe.putN hN) (fun t ht=>by simp [ht]) (by simp))
 have tail:∀ v:AV,FpP D N (a5j x j v) st sw P:=by
  intro v
  unfold a5j
  cases x with
  | t t=>
   simp only
   split
   ·exact one
   ·rename_i hno
    exact FpP.bindM (FpP.upd (hx.t t rfl).1 (hx.t t rfl).2 (FpP.putN hN (h _ _ ((BLe.set (d1s (by simpa using hno))).trans (BLe.putN hN)) (fun t ht=>by simp [ht]) (by simp))))
  | _=>exact one
 refine FpP.bindM (FpP.read hx ?_)
 cases hv:rdv st x<;>simp only
 case dead=>exact FpP.fail
 case bor t q lo n e=>
  have hb:=hx.b t (by rw [hv]; rfl)
  refine FpP.bindM (FpP.get hb.1 hb.2 (FpP.bindM (FpP.guard fun _=>FpP.bindM (FpP.opt fun k hk=> ?_))))
  cases k<;>simp only<;>try exact FpP.fail
  exact FpP.bindM (FpP.guard fun _=>FpP.bindM (FpP.upd hb.1 hb.2 (FpP.putN hN (h _ _ ((BLe.set (a7r hk rfl)).trans (BLe.putN hN)) (fun t ht=>by simp [ht]) (by simp)))))
 all_goals exact FpP.bindM (FpP.guard fun _=>tail _)
theorem c57:∀ (xs:List (Bool×X)) (j:Nat) {st:St} {sw:List Nat} {P:Unit->St->List Nat->Prop},N<=j->(∀ p∈xs,XO D N st p.2)->(∀ st' sw',BLe N st st'->(∀ t∈sw,t∈sw')->(∀ i x,xs[i]? =some (true,x)->j+i∈sw')->P () st' sw')->FpP D N (a6p N j xs) st sw P
 | [],j,st,sw,P,hj,hx,h=>FpP.ret (h _ _ (BLe.refl _) (fun _ h=>h) (fun i x hi=>by simp at hi))
 | (b,x)::xs,j,st,sw,P,hj,hx,h=>by
  refine FpP.bindM ?_
  have go:∀ st1 sw1,BLe N st st1->(∀ t∈sw,t∈sw1)->(b=true->j∈sw1)->FpP D N (a6p N (j+1) xs) st1 sw1 P:=fun st1 sw1 hb hs hj1=>
   c57 xs (j+1) (by omega) (fun p hp=>(hx p (by simp [hp])).le hb) fun st2 sw2 hb2 hs2 hi=>h _ _ (hb.trans hb2) (fun t ht=>hs2 t (hs t ht)) fun i y hy=>by
    cases i with
    | zero=>
     simp only [List.getElem?_cons_zero,Option.some.injEq,Prod.mk.injEq] at hy
     exact hs2 _ (hj1 hy.1)
    | succ i=>rw [show j+(i+1)=j+1+i by omega]; exact hi i y (by simpa using hy)
  cases b with
  | true=>exact d2m hj (hx (true,x) (by simp)) fun st1 sw1 hb hs hj1=>go st1 sw1 hb hs fun _=>hj1
  | false=>exact FpP.ret (go st sw (BLe.refl _) (fun _ h=>h) fun hc=>by cases hc)
theorem c2j:∀ (xs:List (Bool×X)) (j:Nat) {st:St} {sw:List Nat} {P:Unit->St->List Nat->Prop},N<=j->(∀ p∈xs,XO D N st p.2)->(∀ st' sw',(∀ t∈sw,t∈sw')->(∀ i x,xs[i]? =some (false,x)->j+i∈sw')->P () st' sw')->FpP D N (a4i N j xs) st sw P
 | [],j,st,sw,P,hj,hx,h=>FpP.ret (h _ _ (fun _ h=>h) (fun i x hi=>by simp at hi))
 | (b,x)::xs,j,st,sw,P,hj,hx,h=>by
  refine FpP.bindM ?_
  have go:∀ st1 sw1,BLe N st st1->(∀ t∈sw,t∈sw1)->(b=false->j∈sw1)->FpP D N (a4i N (j+1) xs) st1 sw1 P:=fun st1 sw1 hb hs hj1=>
   c2j xs (j+1) (by omega) (fun p hp=>(hx p (by simp [hp])).le hb) fun st2 sw2 hs2 hi=>h _ _ (fun t ht=>hs2 t (hs t ht)) fun i y hy=>by
    cases i with
    | zero=>
     simp only [List.getElem?_cons_zero,Option.some.injEq,Prod.mk.injEq] at hy
     exact hs2 _ (hj1 hy.1)
    | succ i=>rw [show j+(i+1)=j+1+i by omega]; exact hi i y (by simpa using hy)
  cases b with
  | false=>exact d2s hj (hx (false,x) (by simp)) fun st1 sw1 hb hs hj1=>go st1 sw1 hb hs fun _=>hj1
  | true=>exact FpP.ret (go st sw (BLe.refl _) (fun _ h=>h) fun hc=>by cases hc)
end
def b3x:IOp->Option (List X)
 | .mv x=>some [x]
 | .asg x=>some [x]
 | .mva x=>some [x]
 | .mvf x=>some [x]
 | .pick c x y=>some [c,x,y]
 | .alloc _ _=>some []
 | .box _ _ x=>some [x]
 | .build _ _ parts=>some (parts.map fun p=>p.2.2.2)
 | .bslice _ _ _ _ _ parts=>some (parts.map fun p=>p.2)
 | .load _ _ x=>some [x]
 | .store _ _ x y=>some [x,y]
 | .nilck x=>some [x]
 | .bin _ _ _ x y _=>some [x,y]
 | .un _ _ x=>some [x]
 | .eqs _ _ _ _ x y _=>some [x,y]
 | .conv _ _ (.int _) x=>some [x]
 | .mki _ x=>some [x]
 | .mks _ _ _ _ _ x y=>some [x,y]
 | .slice _ _ x lo hi none=>some (x::(lo.toList++hi.toList))
 | .faddr _ _ x _=>some [x]
 | .iaddr _ _ x i=>some [x,i]
 | .ext x _=>some [x]
 | .fld _ _ x _=>some [x]
 | .tas x _ _ _=>some [x]
 | .len _ _ x=>some [x]
 | .app _ _ _ _ x y=>some [x,y]
 | .mm _ _ [x,y]=>some [x,y]
 | .mkmap _=>some []
 | .mget _ _ _ x k=>some [x,k]
 | .mset _ _ x k v=>some [x,k,v]
 | _=>none
def d71 (N:Nat) (st:St):IOp->Bool
 | .store _ _ _ y=>match giv st N y (rdv st y) with
  | some r=>a1c r.2
  | none=>true
 | _=>true
def d03 (N:Nat) (st:St):IOp->Prop
 | .store _ _ _ y=>match giv st N y (rdv st y) with
  | some r=>a1c r.2=true
  | none=>True
 | _=>True
theorem d04 {N:Nat} {st:St} {i:IOp} (h:d71 N st i=true):d03 N st i:=by
 cases i<;>try trivial
 simp only [d71,d03] at h ⊢
 split<;>rename_i hh
 ·rw [hh] at h; exact h
 ·trivial
theorem e2s {D:Nat->Prop} {N:Nat} {st:St} {sw:List Nat} {d:Option Nat} {G:GG} {i:IOp} {xs:List X} (ho:b3x i=some xs) (hx:∀ x∈xs,XO D N st x) (hd:DD D N d) (hs:d03 N st i\/∀ t,t < N->D t):FpP D N (a1q G N d i) st sw tt:=by
 cases i<;>simp only [b3x,Option.some.injEq,reduceCtorEq] at ho
 case mv=>subst ho; exact e2r (hx _ (by simp)) hd
 case asg=>subst ho; exact d4q (hx _ (by simp)) hd
 case mva=>subst ho; exact d4q (hx _ (by simp)) hd
 case mvf=>subst ho; exact e2r (hx _ (by simp)) hd
 case pick=>subst ho; exact d6b (hx _ (by simp)) (hx _ (by simp)) (hx _ (by simp)) hd
 case alloc=>exact d2i hd
 case box=>subst ho; exact e2l (hx _ (by simp)) hd
 case build=>subst ho; exact d2j (fun p hp=>hx _ (List.mem_map.2 ⟨p,hp,rfl⟩)) hd
 case bslice=>subst ho; exact c9f (fun p hp=>hx _ (List.mem_map.2 ⟨p,hp,rfl⟩)) hd
 case load=>subst ho; exact c9g (hx _ (by simp)) hd
 case store T s x y=>
  subst ho
  by_cases hdn:d=none
  ·refine d2u (hx _ (by simp)) (hx _ (by simp)) hdn fun r hr=> ?_
   rcases hs with hs | hs
   ·simp only [d03,hr] at hs
    exact .inl hs
   ·exact .inr hs
  ·intro a st' hr
   exfalso
   cases d with
   | none=>exact hdn rfl
   | some d=>cases hr
 case nilck=>subst ho; exact d2q (hx _ (by simp)) hd
 case bin=>subst ho; exact e2k (hx _ (by simp)) (hx _ (by simp)) hd
 case un=>subst ho; exact e96 (hx _ (by simp)) hd
 case eqs=>subst ho; exact e2m (hx _ (by simp)) (hx _ (by simp)) hd
 case conv s t k x=>
  cases k<;>simp only [b3x,Option.some.injEq,reduceCtorEq] at ho
  subst ho; exact d2k (hx _ (by simp)) hd
 case mki=>subst ho; exact e2p (hx _ (by simp)) hd
 case mks=>subst ho; exact e2q (hx _ (by simp)) (hx _ (by simp)) hd
 case slice T sz x lo hi mx=>
  cases mx<;>simp only [b3x,Option.some.injEq,reduceCtorEq] at ho
  subst ho
  exact d2t (hx _ (by simp)) (fun y hy=>hx _ (by simp [hy])) (fun y hy=>hx _ (by simp [hy])) hd
 case faddr=>subst ho; exact d2l (hx _ (by simp)) hd
 case iaddr=>subst ho; exact d2n (hx _ (by simp)) (hx _ (by simp)) hd
 case ext=>subst ho; exact e2n (hx _ (by simp)) hd
 case fld=>subst ho; exact e2o (hx _ (by simp)) hd
 case tas=>subst ho; exact e2v (hx _ (by simp)) hd
 case len=>subst ho; exact d2o (hx _ (by simp)) hd
 case mkmap=>exact d2p hd
 case mget=>subst ho; exact d59 (hx _ (by simp)) (hx _ (by simp)) hd
 case mset=>subst ho; exact d6a (hx _ (by simp)) (hx _ (by simp)) (hx _ (by simp))
 case app=>subst ho; exact e2j (hx _ (by simp)) (hx _ (by simp)) hd
 case mm mx ts xs2=>
  match xs2,ho with
  | [x,y],ho=>
   simp only [Option.some.injEq] at ho
   subst ho
   exact e95 (hx _ (by simp)) (hx _ (by simp)) hd
open Classical
def a3e (st:St):X->List Nat
 | .t n=>n::(a3z (st.s n)).toList
 | _=>[]
def a0r (st:St):List X->List Nat
 | []=>[]
 | x::xs=>a3e st x++a0r st xs
def slX:X->List Nat
 | .t n=>[n]
 | _=>[]
def slL:List X->List Nat
 | []=>[]
 | x::xs=>slX x++slL xs
theorem c0c {st:St} {x:X}:∀ {xs:List X},x∈xs->∀ t∈a3e st x,t∈a0r st xs
 | y::ys,h,t,ht=>by
  rcases List.mem_cons.1 h with rfl | h
  ·simp [a0r,ht]
  ·simp [a0r,c0c h t ht]
theorem d77 {DL:List Nat} {N:Nat} {st:St} {xs:List X} (h:∀ t∈a0r st xs,t∈DL) (hN:∀ t∈DL,t < N):∀ x∈xs,XO (· ∈DL) N st x:=fun x hx=>{
 t:=fun t ht=>by
  subst ht
  have:=h t (c0c hx t (by simp [a3e]))
  exact ⟨this,hN t this⟩
 b:=fun u hu=>by
  cases x with
  | t t=>
   have:=h u (c0c hx u (by simp [a3e,show a3z (st.s t)=some u from hu]))
   exact ⟨this,hN u this⟩
  | _=>cases hu }
def fr (N:Nat) (W:List Nat) (st st':St):Prop:=∀ t,t < N->t ∉ W->agr st st' t
section
variable {V:List (Nat×Nat)} {P:Program} {G:GG} {N:Nat} {st st':St} {step:(St->Prop)->St->Prop}
theorem Loc.widen {rd wr DL W:List Nat} (h:Loc P G N V step st st' rd wr) (h1:∀ t∈rd,t∈DL) (h2:∀ t∈wr,t∈DL) (h3:∀ t∈DL,t < N) (h4:∀ t∈W,t < N) (hf:fr N W st st'):Loc P G N V step st st' DL W where
 lt t ht:=ht.elim (h3 t) (h4 t)
 frame t ht hn:=hf t ht hn
 loc st2 hV hst K hK:=h.loc st2 hV (fun t ht=>hst t (.inl (ht.elim (h1 t) (h2 t)))) K fun st2' g1 g2=>hK st2' (fun t ht=>by
   by_cases hw:t∈wr
   ·exact g1 t hw
   ·exact ((h.frame t (h4 t ht) hw).symm.trans (hst t (.inr ht))).trans (g2 t (h4 t ht) hw)) (fun t ht hn=>by
   by_cases hw:t∈wr
   ·exact ((hst t (.inl (h2 t hw))).symm.trans (hf t ht hn)).trans (g1 t hw)
   ·exact g2 t ht hw)
theorem d4y {d:Option Nat} {i:IOp} {xs:List X} {W:List Nat} (ho:b3x i=some xs) (he:evS G N d i st=some st') (hN:∀ t∈d.toList++a0r st xs,t < N) (hW:∀ t∈W,t < N) (hs:d03 N st i) (hf:fr N W st st') :
  Loc P G N V (b8i P G N d (.op i)) st st' (d.toList++a0r st xs) W:=by
 have hx:=d77 (DL:=d.toList++a0r st xs) (st:=st) (xs:=xs) (fun t ht=>by simp [ht]) hN
 have hd:DD (· ∈d.toList++a0r st xs) N d:=fun t ht=>by
  subst ht
  exact ⟨by simp,hN t (by simp)⟩
 unfold evS at he
 cases hr:(a1q G N d i).run st with
 | none=>rw [hr] at he; cases he
 | some r=>
  obtain ⟨u,st1⟩:=r
  rw [hr] at he
  simp only [Option.map,Option.some.injEq] at he
  subst he
  obtain ⟨rd,wr,sw',g1,g2,g3,_⟩:=e2s (sw:=[]) ho hx hd (.inl hs) u st1 hr
  obtain ⟨st2,rd2,wr2,⟨rfl,rfl,rfl⟩,hL⟩:=b95 (V:=V) (P:=P) (G:=G) (N:=N) (d:=d) (act:= .op i) (st:=st) (K:=fun st2 rd2 wr2=>st2=st1/\rd2=rd/\wr2=wr) (by simp only [e0q,g1,and_self])
  exact hL.widen g2 g3 hN hW hf
theorem d6n {d:Nat} {p:Nat×Nat} (hI:a99 V st) (hp:p∈V) (hd:d < N) (he:evS G N (some d) (.mv (.t p.1)) st=some st'):Loc P G N V (b8i P G N (some d) (.op (.mv (.t p.1)))) st st' (some d).toList [d]/\True:=by
 have run:∀ s:St,a99 V s->(a1q G N (some d) (.mv (.t p.1))).run s=some ((),s.put d (.ref p.1 [] 0 p.2)):=by
  intro s hs
  obtain ⟨h1,h2⟩:=hs p hp
  cases hv:s.s p.1<;>simp only [hv,c9m,reduceCtorEq] at h1
  simp only [a1q,mvE,Ev.run_bind,a03,rdv,rde,hv,b8m,Ev.run,setD,a3w,Option.bind,h2]
 have hst:st'=st.put d (.ref p.1 [] 0 p.2):=by
  simp only [evS,run st hI,Option.map,Option.some.injEq] at he
  exact he.symm
 subst hst
 refine ⟨⟨fun t ht=> ?_,fun t ht hn=> ?_,fun st2 hV2 hag K hK=> ?_⟩,trivial⟩
 ·rcases ht with ht | ht<;>simp at ht<;>subst ht<;>exact hd
 ·exact agr.putn _ (by simpa using hn)
 ·simp only [b8i,run st2 hV2]
  refine hK _ (fun t ht=>(hag t (.inr ht)).put _) (fun t ht hn=>agr.putn _ (by simpa using hn))
theorem d28 {d:Option Nat} {i:IOp} {xs:List X} (ho:b3x i=some xs) (he:evS G N d i st=some st') (hN:∀ t∈d.toList++a0r st xs,t < N) :
  Loc P G N V (b8i P G N d (.op i)) st st' (List.range N) (List.range N):=by
 have hx:∀ x∈xs,XO (· < N) N st x:=fun x hx=>by
  have:=d77 (DL:=d.toList++a0r st xs) (st:=st) (xs:=xs) (fun t ht=>by simp [ht]) hN x hx
  exact { t:=fun t ht=>⟨(this.t t ht).2,(this.t t ht).2⟩,b:=fun u hu=>⟨(this.b u hu).2,(this.b u hu).2⟩ }
 have hd:DD (· < N) N d:=fun t ht=>by
  subst ht
  exact ⟨hN t (by simp),hN t (by simp)⟩
 unfold evS at he
 cases hr:(a1q G N d i).run st with
 | none=>rw [hr] at he; cases he
 | some r=>
  obtain ⟨u,st1⟩:=r
  rw [hr] at he
  simp only [Option.map,Option.some.injEq] at he
  subst he
  obtain ⟨rd,wr,sw',g1,g2,g3,_⟩:=e2s (sw:=[]) ho hx hd (.inr fun t ht=>ht) u st1 hr
  obtain ⟨st2,rd2,wr2,⟨rfl,rfl,rfl⟩,hL⟩:=b95 (V:=V) (P:=P) (G:=G) (N:=N) (d:=d) (act:= .op i) (st:=st) (K:=fun st2 rd2 wr2=>st2=st1/\rd2=rd/\wr2=wr) (by simp only [e0q,g1,and_self])
  exact hL.widen (fun t ht=>List.mem_range.2 (g2 t ht)) (fun t ht=>List.mem_range.2 (g3 t ht)) (fun t ht=>List.mem_range.1 ht) (fun t ht=>List.mem_range.1 ht) (fun t ht hn=>absurd (List.mem_range.2 ht) hn)
theorem d27 {d:Option Nat} {f:FuncId} {args:List (Bool×X)} {tys:List TypeId} {st1 st2:St} {res:AV} {W:List Nat} (h1:gvs N (N+2) args (some st)=some st1) (h2:pss N (N+2) args (some st1)=some st2) (hA:ACalls P G f (a61 N args.length st2) res) (hn:a0p res=true)
  (hN:∀ t∈d.toList++a0r st (args.map (·.2)),t < N) (hW:∀ t∈W,t < N) (hf:fr N W st (b4j (if a1l res then st1 else st2) N d res)) :
  Loc P G N V (b8i P G N d (.call f args tys)) st (b4j (if a1l res then st1 else st2) N d res) (d.toList++a0r st (args.map (·.2))) W:=by
 have hx:=d77 (DL:=d.toList++a0r st (args.map (·.2))) (st:=st) (xs:=args.map (·.2)) (fun t ht=>by simp [ht]) hN
 have hx':∀ p∈args,XO (· ∈d.toList++a0r st (args.map (·.2))) N st p.2:=fun p hp=>hx _ (List.mem_map.2 ⟨p,hp,rfl⟩)
 have hd:DD (· ∈d.toList++a0r st (args.map (·.2))) N d:=fun t ht=>by
  subst ht
  exact ⟨by simp,hN t (by simp)⟩
 rw [<-a87] at h1
 cases hr1:(a6p N (N+2) args).run st with
 | none=>rw [hr1] at h1; cases h1
 | some r1=>
  obtain ⟨u1,st1'⟩:=r1
  rw [hr1] at h1
  simp only [Option.map,Option.some.injEq] at h1
  subst h1
  rw [<-a40] at h2
  cases hr2:(a4i N (N+2) args).run st1' with
  | none=>rw [hr2] at h2; cases h2
  | some r2=>
   obtain ⟨u2,st2'⟩:=r2
   rw [hr2] at h2
   simp only [Option.map,Option.some.injEq] at h2
   subst h2
   obtain ⟨rd,wr,sw1,a1,a2,a3,hb,_,a4⟩:=c57 (N:=N) (D:=(· ∈d.toList++a0r st (args.map (·.2)))) args (N+2) (st:=st) (sw:=[]) (P:=fun _ st' sw'=>BLe N st st'/\(∀ t∈[],t∈sw')/\(∀ i x,args[i]? =some (true,x)->N+2+i∈sw')) (by omega) hx' (fun st' sw' b1 b2 b3=>⟨b1,b2,b3⟩) u1 st1' hr1
   obtain ⟨rd2,wr2,sw2,c1,c2,c3,c4,c5⟩:=c2j (N:=N) (D:=(· ∈d.toList++a0r st (args.map (·.2)))) args (N+2) (st:=st1') (sw:=sw1) (P:=fun _ st' sw'=>(∀ t∈sw1,t∈sw')/\(∀ i x,args[i]? =some (false,x)->N+2+i∈sw')) (by omega) (fun p hp=>(hx' p hp).le hb) (fun st' sw' b1 b2=>⟨b1,b2⟩) u2 st2' hr2
   have hfin:∃ rd3 wr3 sw3,(c3u N d res).runF N ((if a1l res then st1' else st2').clear N) []=some ⟨(),b4j (if a1l res then st1' else st2') N d res,rd3,wr3,sw3⟩/\(∀ t∈rd3,t∈d.toList++a0r st (args.map (·.2)))/\(∀ t∈wr3,t∈d.toList++a0r st (args.map (·.2))):=by
    cases d with
    | none=>exact ⟨[],[],[],rfl,by simp,by simp⟩
    | some d=>
     obtain ⟨rd3,wr3,sw3,e1,e2,e3,_⟩:=FpP.thru (D:=(· ∈(some d).toList++a0r st (args.map (·.2)))) (N:=N) (st:=(if a1l res then st1' else st2').clear N) (sw:=[]) (d:=some d) (v:=res) (M:=N) (P:=tt) (Nat.le_refl _) hd (fun _ _=>trivial) () _ (by rw [b4c])
     exact ⟨rd3,wr3,sw3,e1,e2,e3⟩
   obtain ⟨rd3,wr3,sw3,e1,e2,e3⟩:=hfin
   obtain ⟨st3,rd4,wr4,⟨rfl,hrd,hwr⟩,hL⟩:=b95 (V:=V) (P:=P) (G:=G) (N:=N) (d:=d) (act:= .call f args tys) (st:=st) (K:=fun s2 r2 w2=>s2=b4j (if a1l res then st1' else st2') N d res/\(∀ t∈r2,t∈d.toList++a0r st (args.map (·.2)))/\(∀ t∈w2,t∈d.toList++a0r st (args.map (·.2)))) (by
    refine ⟨_,_,_,res,a1,c1,hA,hn,e1,fun i hi=> ?_,rfl,fun t ht=> ?_,fun t ht=> ?_⟩
    ·cases ha:args[i]? with
     | none=>simp at ha; omega
     | some p=>
      obtain ⟨b,x⟩:=p
      cases b with
      | true=>exact c4 _ (a4 i x ha)
      | false=>exact c5 i x ha
    ·simp only [List.mem_append] at ht
     rcases ht with ((ht | ht) | ht) | ht
     ·exact a2 t ht
     ·exact c2 t ht
     ·exact c3 t ht
     ·exact e2 t ht
    ·split at ht<;>simp only [List.mem_append] at ht
     ·rcases ht with ht | ht
      ·exact a3 t ht
      ·exact e3 t ht
     ·rcases ht with (ht | ht) | ht
      ·exact a3 t ht
      ·exact c3 t ht
      ·exact e3 t ht)
   exact hL.widen hrd hwr hN hW hf
end
def c2g (st:St) (N:Nat) (T:List (Nat×AV)) (d:Option Nat) (res:AV):St:=match d with
 | some d=>(st.lentS N T).thru N d res
 | none=>st.lentS N T
theorem b7h {α:Type} {T:List (Nat×α)} {t:Nat} {v:α} (h:T.lookup t=some v):(t,v)∈T:=by
 induction T with
 | nil=>simp at h
 | cons p T ih=>
  obtain ⟨u,x⟩:=p
  by_cases h2:t=u
  ·subst h2
   simp at h
   simp [h]
  ·have:(t==u)=false:=by simpa using h2
   simp only [List.lookup_cons,this] at h
   exact List.mem_cons_of_mem _ (ih h)
def d6k:AV->Bool
 | .lit _=>true
 | _=>false
def b5b (rd:List Nat):X->Bool
 | .t n=>rd.contains n
 | _=>true
def c9r (st:St) (rd:List Nat) (args:List (Bool×X)):Bool:=args.all fun p=> !p.1&&(d6k (rdv st p.2)&&b5b rd p.2)
def a2i (st:St) (j:Nat):List (Bool×X)->St
 | []=>st
 | p::ps=>a2i (st.put j (rdv st p.2)) (j+1) ps
mutual
def b08 (rd:List Nat):AV->Bool
 | .ref t _ _ _=>rd.contains t
 | .bor t _ _ _ _=>rd.contains t
 | .fn _ fs cs=>a7j rd fs&&a7j rd cs
 | _=>true
def a7j (rd:List Nat):List AV->Bool
 | []=>true
 | k::ks=>b08 rd k&&a7j rd ks
end
def e3a (st:St) (rd:List Nat) (n:Nat) (lay:List CS):Bool:=lay.all fun
 | .p k=>decide (k < n)
 | .x y=>b5b rd y&&b08 rd (xv st y)
theorem c9t {v:AV} (h:d6k v=true):∃ u,v= .lit u:=by cases v<;>simp [d6k] at h; exact ⟨_,rfl⟩
theorem c5c {st:St} {j N:Nat} {v:AV} {x:X} (hx:∀ n,x= .t n->n < N) (hj:N<=j):rdv (st.put j v) x=rdv st x:=by
 cases x with
 | t n=>have:=hx n rfl; simp [rdv,show n≠j by omega]
 | _=>rfl
theorem b39 {N:Nat}:∀ (args:List (Bool×X)) (j:Nat) (st:St),(args.all fun p=> !p.1)=true->(a6p N j args).run st=some ((),st)
 | [],j,st,_=>rfl
 | (g,x)::xs,j,st,h=>by
  simp only [List.all_cons,Bool.and_eq_true,Bool.not_eq_true'] at h
  obtain ⟨rfl,h2⟩:=h
  simp only [a6p,Bool.false_eq_true,if_false,Ev.run_bind,Ev.run_pure,Option.bind]
  exact b39 xs (j+1) st h2
theorem b2e {N:Nat}:∀ (args:List (Bool×X)) (j:Nat) (st:St),N<=j->(∀ p∈args,p.1=false/\d6k (rdv st p.2)=true/\∀ n,p.2= .t n->n < N)->(a4i N j args).run st=some ((),a2i st j args)
 | [],j,st,_,_=>rfl
 | (g,x)::xs,j,st,hj,h=>by
  obtain ⟨h1,h2,h3⟩:=h _ (List.mem_cons_self ..)
  simp only at h1 h2 h3
  subst h1
  obtain ⟨u,hu⟩:=c9t h2
  have hp:(c0v N x j).run st=some ((),st.put j (rdv st x)):=by
   unfold c0v
   simp only [Ev.run_bind,a03,hu,Option.bind,a0p,a0j,if_true]
   cases x<;>simp [a5j,a04,frz,a7y]
  simp only [a4i,Bool.false_eq_true,if_false,Ev.run_bind,hp,Option.bind,a2i]
  refine b2e xs (j+1) _ (by omega) fun p hp2=> ?_
  obtain ⟨k1,k2,k3⟩:=h p (List.mem_cons_of_mem _ hp2)
  exact ⟨k1,by rw [c5c k3 hj]; exact k2,k3⟩
theorem b3y {N:Nat}:∀ (args:List (Bool×X)) (j:Nat) (st:St),(∀ t,t < j->(a2i st j args).s t=st.s t)
 | [],j,st,t,_=>rfl
 | p::ps,j,st,t,ht=>by
  rw [a2i,b3y (N:=N) ps (j+1) _ t (by omega)]
  simp [show t≠j by omega]
theorem b7y:∀ (args:List (Bool×X)) (j:Nat) (st:St) (N:Nat),N<=j->(∀ p∈args,d6k (rdv st p.2)=true/\∀ n,p.2= .t n->n < N)->∀ t,(a2i st j args).ep t=st.ep t
 | [],j,st,N,_,_,t=>rfl
 | p::ps,j,st,N,hj,h,t=>by
  obtain ⟨h1,h2⟩:=h _ (List.mem_cons_self ..)
  obtain ⟨u,hu⟩:=c9t h1
  rw [a2i,b7y ps (j+1) _ N (by omega) (fun q hq=>by
   obtain ⟨k1,k2⟩:=h q (List.mem_cons_of_mem _ hq)
   exact ⟨by rw [c5c k2 hj]; exact k1,k2⟩) t]
  simp [hu,St.put_ep,a00]
theorem b1h {N:Nat}:∀ (args:List (Bool×X)) (j:Nat) (st:St),N<=j->(∀ p∈args,∀ n,p.2= .t n->n < N)->∀ i p,args[i]? =some p->(a2i st j args).s (j+i)=rdv st p.2
 | [],j,st,_,_,i,p,h=>by simp at h
 | q::ps,j,st,hj,hx,i,p,h=>by
  rw [a2i]
  cases i with
  | zero=>
   simp only [List.getElem?_cons_zero,Option.some.injEq] at h
   subst h
   rw [b3y (N:=N) ps (j+1) _ (j+0) (by omega)]
   simp
  | succ i=>
   have:=b1h ps (j+1) (st.put j (rdv st q.2)) (by omega) (fun p hp=>hx p (List.mem_cons_of_mem _ hp)) i p (by simpa using h)
   rw [show j+(i+1)=j+1+i by omega,this]
   exact c5c (hx p (List.mem_cons_of_mem _ (List.mem_of_getElem? (by simpa using h)))) hj
mutual
theorem c3o {stA stB:St} {rd:List Nat} {L:List (Nat×Nat)} (h:∀ t,t∈rd->stB.ep t=stA.ep t):∀ av,b08 rd av=true->trA stB L av=trA stA L av
 | .ref t q o e,hr=>by
  simp only [b08,List.contains_iff_mem] at hr
  simp only [trA,h t hr]
 | .fn f fs cs,hr=>by
  simp only [b08,Bool.and_eq_true] at hr
  simp only [trA,b8d h fs hr.1,b8d h cs hr.2]
 | .bor _ _ _ _ _,_=>by simp only [trA]
 | .dead,_ | .lit _,_ | .sl _ _,_ | .ip _ _,_ | .own _ _ _,_ | .var _,_ | .agg _,_ | .tup _,_ | .ifc _ _,_ | .mp _ _,_ | .loan _,_=>by simp only [trA]
theorem b8d {stA stB:St} {rd:List Nat} {L:List (Nat×Nat)} (h:∀ t,t∈rd->stB.ep t=stA.ep t):∀ ks,a7j rd ks=true->trL stB L ks=trL stA L ks
 | [],_=>by simp only [trL]
 | k::ks,hr=>by
  simp only [a7j,Bool.and_eq_true] at hr
  simp only [trL,c3o h k hr.1,b8d h ks hr.2]
end
theorem c0u {N:Nat} {s1 s2 t1 t2:St} {rd:List Nat} (h:∀ t,t∈rd->t1.s t=s1.s t/\t2.s t=s2.s t/\t2.ep t=s2.ep t):∀ (es:List (Option Nat×AV)) (acc:List AV) (L:List (Nat×Nat)),(∀ p∈es,b08 rd p.2=true)->pX N t1 t2 acc L es=pX N s1 s2 acc L es
 | [],acc,L,_=>by simp only [pX]
 | (some k,av)::es,acc,L,hr=>by
  have ih:∀ a l,pX N t1 t2 a l es=pX N s1 s2 a l es:=fun a l=>c0u h es a l fun p hp=>hr p (List.mem_cons_of_mem _ hp)
  simp only [pX,ih]
 | (none,av)::es,acc,L,hr=>by
  have ih:∀ a l,pX N t1 t2 a l es=pX N s1 s2 a l es:=fun a l=>c0u h es a l fun p hp=>hr p (List.mem_cons_of_mem _ hp)
  have h0:=hr _ (List.mem_cons_self ..)
  simp only at h0
  have gen:∀ av,b08 rd av=true->trA t2 L av=trA s2 L av:=fun av ha=>c3o (fun t ht=>(h t ht).2.2) av ha
  cases av with
  | ref t q o e=>
   have ht:t∈rd:=by simpa [b08] using h0
   obtain ⟨a1,a2,a3⟩:=h t ht
   cases q with
   | nil=>
    cases o with
    | zero=>simp only [pX,ih,a1,a2,a3]
    | succ o=>simp only [pX,gen _ h0,ih]
   | cons i q=>simp only [pX,gen _ h0,ih]
  | _=>simp only [pX,gen _ h0,ih]
theorem c9w {V:List (Nat×Nat)} {P:Program} {G:GG} {N:Nat} {st:St} {d:Option Nat} {cv:X} {args:List (Bool×X)} {lay:List CS} {tys:List TypeId} {f:FuncId} {fs cs pre:List AV} {L:List (Nat×Nat)} {res:AV} {posts:List (Nat×AV)} {rd:List Nat}
  (ha:c9r st rd args=true) (hcv:b5b rd cv=true) (hfn:xv st cv= .fn f fs cs) (hfB:fnB P f=true) (hri:(a7j rd fs&&a7j rd cs)=true) (hlay:e3a st rd args.length lay=true)
  (hpx:pX N st (a2i st (N+2) args) [] [] (c0d N (a2i st (N+2) args) fs lay cs)=some (pre,L)) (hA:ACallsX P G f pre res posts) (hnr:a0p res=true) (hpo:posts.map (·.1)=L.map (·.2)) (hvar:∀ i av,(i,av)∈posts->∃ ks,av= .var ks/\a1c ks=true)
  (hrd:∀ t∈rd,t < N) (hd:∀ t∈d.toList,t < N) (hL:∀ t∈L.map (·.1),t < N/\t∈rd) :
  Loc P G N V (b8i P G N d (.callx cv args lay tys)) st (c2g st N ((L.map (·.1)).zip (posts.map (·.2))) d res) (d.toList++rd) (d.toList++L.map (·.1)):=by
 have hT:∀ t q,c2r ((L.map (·.1)).zip (posts.map (·.2))) t q=false:=by
  intro t q
  unfold c2r
  split
  ·rename_i i q' ks hl
   have hm:=(List.of_mem_zip (b7h hl)).2
   obtain ⟨p,hp,hpe⟩:=List.mem_map.1 hm
   obtain ⟨ks',he,hno⟩:=hvar p.1 p.2 hp
   rw [hpe] at he
   injection he with he
   subst he
   simp [hno]
  ·rfl
 have run:∀ s:St,(∀ t,t∈d.toList++rd\/t∈d.toList++L.map (·.1)->agr st s t)->∀ K:St->Prop,K (c2g s N ((L.map (·.1)).zip (posts.map (·.2))) d res)->b8i P G N d (.callx cv args lay tys) K s:=by
  intro s hag K hK
  have hrs:∀ t,t∈rd->agr st s t:=fun t ht=>hag t (.inl (List.mem_append.2 (.inr ht)))
  have hx:∀ x,b5b rd x=true->rdv s x=rdv st x/\xv s x=xv st x/\∀ n,x= .t n->n < N:=fun x hx=>by
   cases x with
   | t n=>
    have hn:n∈rd:=by simpa [b5b] using hx
    refine ⟨(hrs n hn).1,(hrs n hn).1,fun m hm=> ?_⟩
    injection hm with hm
    subst hm
    exact hrd _ hn
   | _=>exact ⟨rfl,rfl,fun _ h=>by cases h⟩
  have hargs:∀ p∈args,p.1=false/\d6k (rdv s p.2)=true/\(∀ n,p.2= .t n->n < N)/\rdv s p.2=rdv st p.2:=fun p hp=>by
   have:=List.all_eq_true.1 ha p hp
   simp only [Bool.and_eq_true,Bool.not_eq_true'] at this
   obtain ⟨k1,k2,k3⟩:=this
   obtain ⟨e1,_,e3⟩:=hx _ k3
   exact ⟨k1,by rw [e1]; exact k2,e3,e1⟩
  have hargs0:∀ p∈args,d6k (rdv st p.2)=true/\∀ n,p.2= .t n->n < N:=fun p hp=>by
   obtain ⟨_,k2,k3,k4⟩:=hargs p hp
   exact ⟨by rw [<-k4]; exact k2,k3⟩
  have hg:=b39 (N:=N) args (N+2) s (List.all_eq_true.2 fun p hp=>by simp [(hargs p hp).1])
  have hp:=b2e (N:=N) args (N+2) s (by omega) fun p hp=>⟨(hargs p hp).1,(hargs p hp).2.1,(hargs p hp).2.2.1⟩
  have hep:=b7y args (N+2) s N (by omega) fun p hp=>⟨(hargs p hp).2.1,(hargs p hp).2.2.1⟩
  have hep0:=b7y args (N+2) st N (by omega) hargs0
  have hps:=b3y (N:=N) args (N+2) s
  have hps0:=b3y (N:=N) args (N+2) st
  have hxv:∀ (s:St) (y:X),(∀ n,y= .t n->n < N)->xv (a2i s (N+2) args) y=xv s y:=fun s y hy=>by
   cases y with
   | t n=>exact b3y (N:=N) args (N+2) s n (by have:=hy n rfl; omega)
   | _=>rfl
  have hcv2:xv (a2i s (N+2) args) cv= .fn f fs cs:=by rw [hxv s cv (hx cv hcv).2.2,(hx cv hcv).2.1]; exact hfn
  have hlay2:lay.map (c76 N (a2i s (N+2) args))=lay.map (c76 N (a2i st (N+2) args)):=by
   apply List.map_congr_left
   intro c hc
   have:=List.all_eq_true.1 hlay c hc
   cases c with
   | p k=>
    have hk:k < args.length:=by simpa using this
    have h1:=b1h (N:=N) args (N+2) s (by omega) (fun p hp=>(hargs p hp).2.2.1) k args[k] (by simp [hk])
    have h2:=b1h (N:=N) args (N+2) st (by omega) (fun p hp=>(hargs p hp).2.2.1) k args[k] (by simp [hk])
    simp only [c76,h1,h2,(hargs _ (List.getElem_mem hk)).2.2.2]
   | x y=>
    simp only [Bool.and_eq_true] at this
    have hy:=hx y this.1
    simp only [c76,hxv s y hy.2.2,hxv st y hy.2.2,hy.2.1]
  have heff:c0d N (a2i s (N+2) args) fs lay cs=c0d N (a2i st (N+2) args) fs lay cs:=by simp only [c0d,hlay2]
  simp only [Bool.and_eq_true] at hri
  have hrefL:∀ ks:List AV,a7j rd ks=true->∀ k∈ks,b08 rd k=true:=by
   intro ks
   induction ks with
   | nil=>intro _ k hk; simp at hk
   | cons k ks ih=>
    intro h k' hk'
    simp only [a7j,Bool.and_eq_true] at h
    rcases List.mem_cons.1 hk' with rfl | hk'
    ·exact h.1
    ·exact ih h.2 k' hk'
  have hrefs:∀ p∈c0d N (a2i st (N+2) args) fs lay cs,b08 rd p.2=true:=by
   intro p hp
   simp only [c0d,List.mem_append,List.mem_map] at hp
   rcases hp with ⟨k,hk,rfl⟩ | ⟨c,hc,rfl⟩ | ⟨k,hk,rfl⟩
   ·exact hrefL fs hri.1 k hk
   ·have:=List.all_eq_true.1 hlay c hc
    cases c with
    | p k=>
     have hk:k < args.length:=by simpa using this
     have h2:=b1h (N:=N) args (N+2) st (by omega) (fun p hp=>(hargs p hp).2.2.1) k args[k] (by simp [hk])
     obtain ⟨u,hu⟩:=c9t (hargs0 _ (List.getElem_mem hk)).1
     simp only [c76,h2,hu,b08]
    | x y=>
     simp only [Bool.and_eq_true] at this
     simp only [c76,hxv st y (hx y this.1).2.2]
     exact this.2
   ·exact hrefL cs hri.2 k hk
  have hpx2:pX N s (a2i s (N+2) args) [] [] (c0d N (a2i s (N+2) args) fs lay cs)=some (pre,L):=by
   rw [heff,<-hpx]
   exact c0u (rd:=rd) (fun t ht=>⟨(hrs t ht).1,by rw [hps t (by have:=hrd t ht; omega),hps0 t (by have:=hrd t ht; omega)]; exact (hrs t ht).1,by rw [hep,hep0]; exact (hrs t ht).2⟩) _ _ _ hrefs
  have heq:∀ c:Bool,(if c=true then s else a2i s (N+2) args).lentS N ((L.map (·.1)).zip (posts.map (·.2)))=s.lentS N ((L.map (·.1)).zip (posts.map (·.2))):=by
   intro c
   cases c
   ·refine St.ext' (fun u=> ?_) (fun u=>hep u)
    simp only [St.lentS,Bool.false_eq_true,if_false]
    by_cases hu:u < N
    ·simp only [hu,if_true,hps u (by omega)]
    ·simp only [hu,if_false]
   ·rfl
  simp only [b8i,c5u]
  refine ⟨f,fs,cs,s,a2i s (N+2) args,L,pre,res,posts,_,hg,hp,hcv2,hfB,hpx2,hA,hnr,hpo,fun i av hm=>(hvar i av hm).imp fun _ h=>h.1,?_,hK⟩
  rw [heq]
  cases d with
  | none=>simp only [c3u,Ev.run_pure,c2g]
  | some d=>simp only [c3u,b4c,c2g]
 have low:∀ s:St,∀ t,t < N->t ∉ d.toList++L.map (·.1)->agr s (c2g s N ((L.map (·.1)).zip (posts.map (·.2))) d res) t:=by
  intro s t ht hn
  simp only [List.mem_append,not_or] at hn
  have hlk:((L.map (·.1)).zip (posts.map (·.2))).lookup t=none:=by
   cases hl:((L.map (·.1)).zip (posts.map (·.2))).lookup t with
   | none=>rfl
   | some av=>exact absurd (List.of_mem_zip (b7h hl)).1 hn.2
  have hlent:agr s (s.lentS N ((L.map (·.1)).zip (posts.map (·.2)))) t:=by
   refine ⟨?_,rfl⟩
   simp only [St.lentS,ht,if_true,hlk]
   have:c2r ((L.map (·.1)).zip (posts.map (·.2)))=fun _ _=>false:=by funext a b; exact hT a b
   rw [this,a4q]
  cases d with
  | none=>exact hlent
  | some d=>
   have htd:t≠d:=by simpa using hn.1
   simp only [c2g]
   exact ((hlent.trans (agr.putn _ (by omega))).trans (agr.putn _ (by omega))).trans (agr.putn _ htd)
 refine ⟨fun t ht=> ?_,fun t ht hn=>low st t ht hn,fun s _ hag K hK=>run s hag K (hK _ (fun t ht=> ?_) fun t ht hn=>low s t ht hn)⟩
 ·rcases ht with ht | ht<;>rcases List.mem_append.1 ht with ht | ht
  ·exact hd t ht
  ·exact hrd t ht
  ·exact hd t ht
  ·exact (hL t ht).1
 ·have hgt:=hag t (.inr ht)
  have htN:t < N:=by
   rcases List.mem_append.1 ht with ht | ht
   ·exact hd t ht
   ·exact (hL t ht).1
  have hlent:agr (st.lentS N ((L.map (·.1)).zip (posts.map (·.2)))) (s.lentS N ((L.map (·.1)).zip (posts.map (·.2)))) t:=by
   refine ⟨?_,hgt.2⟩
   simp only [St.lentS,htN,if_true,hgt.1]
  cases d with
  | none=>exact hlent
  | some d=>
   simp only [c2g]
   exact ((hlent.put _).put _).put _
def wrE (v:AV) (x:X):List Nat:=if a04 v=true then [] else slX x
def Wop (st:St) (d:Option Nat):IOp->List Nat
 | .asg x=>d.toList++a3e st x
 | .mva x=>d.toList++slX x
 | .mvf x=>d.toList++slX x
 | .box _ _ x=>d.toList++slX x
 | .build _ _ parts=>d.toList++slL (parts.map fun p=>p.2.2.2)
 | .bslice _ _ _ _ _ parts=>d.toList++slL (parts.map fun p=>p.2)
 | .store _ _ x y=>a3e st x++slX y
 | .app _ _ _ _ x y=>d.toList++a0r st [x,y]
 | .mki _ x=>d.toList++slX x
 | .ext x _=>d.toList++wrE (rdv st x) x
 | .mset _ _ x _ _=>a3e st x
 | _=>d.toList
def d4l (b:Bool) (p q:Prop):Prop:=if b then p else q
abbrev DA:=List (List Nat)×List (Nat×Nat)
def b32 (V:List (Nat×Nat)) (st:St) (xs:List X):IOp->List Nat
 | .mv (.t t)=>if V.any (fun p=>p.1==t) then [] else a0r st xs
 | _=>a0r st xs
def e9f (N:Nat) (aft:DA) (fps:List (List Nat×List Nat)) (K:St->Prop) (st:St):Prop:=b5g aft.1 fps=true/\∀ st',(∀ t,t < N->agr st st' t)->K st'
section
variable (P:Program) (G:GG) (N:Nat) (aft:DA)
def d1h (ex:List Nat) (d:Option Nat) (act:IAct) (fps:List (List Nat×List Nat)) (Kn:List (List Nat×List Nat)->St->Prop) (st:St):Prop:=match act with
 | .op i=>match b3x i,evS G N d i st with
  | some xs,some st'=>d4l (d71 N st i) ((∀ t∈ex++(d.toList++a0r st xs),t < N)/\(∀ t∈Wop st d i,t < N)/\fr N (Wop st d i) st st'/\Kn (fps++[(ex++(d.toList++b32 aft.2 st xs i),Wop st d i)]) st')
   ((∀ t∈ex++(d.toList++a0r st xs),t < N)/\Kn (fps++[(ex++List.range N,List.range N)]) st')
  | _,_=>False
 | .call f args _=>match gvs N (N+2) args (some st) with
  | some st1=>match pss N (N+2) args (some st1) with
   | some st2=>∃ res W,ACalls P G f (a61 N args.length st2) res/\a0p res=true/\(∀ t∈ex++(d.toList++a0r st (args.map (·.2))),t < N)/\(∀ t∈W,t < N)/\fr N W st (b4j (if a1l res then st1 else st2) N d res)/\
    Kn (fps++[(ex++(d.toList++a0r st (args.map (·.2))),W)]) (b4j (if a1l res then st1 else st2) N d res)
   | none=>False
  | none=>False
 | .callx cv args lay _=>∃ f fs cs pre L res posts rd,c9r st rd args=true/\b5b rd cv=true/\xv st cv= .fn f fs cs/\fnB P f=true/\(a7j rd fs&&a7j rd cs)=true/\e3a st rd args.length lay=true/\
   pX N st (a2i st (N+2) args) [] [] (c0d N (a2i st (N+2) args) fs lay cs)=some (pre,L)/\ACallsX P G f pre res posts/\a0p res=true/\posts.map (·.1)=L.map (·.2)/\(∀ i av,(i,av)∈posts->∃ ks,av= .var ks/\a1c ks=true)/\
   (∀ t∈ex++rd,t < N)/\(∀ t∈d.toList,t < N)/\(∀ t∈L.map (·.1),t < N/\t∈rd)/\Kn (fps++[(ex++(d.toList++rd),d.toList++L.map (·.1))]) (c2g st N ((L.map (·.1)).zip (posts.map (·.2))) d res)
 | .nilq _ _ _=>False
 | .bad _=>False
def a93:List AO->List (List Nat×List Nat)->(St->Prop)->St->Prop
 | [],fps,K,st=>e9f N aft fps K st
 | io::rest,fps,K,st=>match io.g with
  | none=>d1h P G N aft [] io.dst io.act fps (fun fps st=>a99 aft.2 st/\a93 rest fps K st) st
  | some (_,t,want)=>match st.s t with
   | .lit v=>if b8x want v then d1h P G N aft [t] io.dst io.act fps (fun fps st=>a99 aft.2 st/\a93 rest fps K st) st else (∀ u∈t::io.dst.toList,u < N)/\a99 aft.2 (a4j io.dst st)/\a93 rest (fps++[([t],io.dst.toList)]) K (a4j io.dst st)
   | _=>False
end
section
variable {P:Program} {G:GG} {N:Nat} {aft:DA}
theorem c5z {ex:List Nat} {d:Option Nat} {act:IAct} {fps:List (List Nat×List Nat)} {Kn:List (List Nat×List Nat)->St->Prop} {st:St} (hI:a99 aft.2 st) (h:d1h P G N aft ex d act fps Kn st):∃ st' rd wr,Loc P G N aft.2 (b8i P G N d act) st st' rd wr/\(∀ t∈ex,t < N)/\Kn (fps++[(ex++rd,wr)]) st':=by
 cases act with
 | op i=>
  simp only [d1h] at h
  split at h
  ·rename_i xs st' ho he
   unfold d4l at h
   split at h
   ·rename_i hb
    obtain ⟨h1,h2,h4,h5⟩:=h
    have gen:b32 aft.2 st xs i=a0r st xs->∃ st' rd wr,Loc P G N aft.2 (b8i P G N d (.op i)) st st' rd wr/\(∀ t∈ex,t < N)/\Kn (fps++[(ex++rd,wr)]) st':=fun e=>⟨st',_,_,d4y (V:=aft.2) ho he (fun t ht=>h1 t (List.mem_append.2 (.inr ht))) h2 (d04 hb) h4,fun t ht=>h1 t (List.mem_append.2 (.inl ht)),by rw [e] at h5; exact h5⟩
    by_cases hm:∃ t,i= .mv (.t t)/\(aft.2.any fun p=>p.1==t)=true
    ·obtain ⟨t,rfl,ht⟩:=hm
     have e:b32 aft.2 st xs (.mv (.t t))=[]:=by simp only [b32,ht,if_true]
     rw [e,List.append_nil] at h5
     obtain ⟨p,hp,hpt⟩:=List.any_eq_true.1 ht
     have hpt:p.1=t:=by simpa using hpt
     subst hpt
     cases d with
     | none=>
      exfalso
      have:=(hI p hp).1
      cases hv:st.s p.1<;>simp only [hv,c9m,reduceCtorEq] at this
      simp [evS,a1q,mvE,Ev.run_bind,a03,rdv,hv,b8m,Ev.run,setD,Option.bind] at he
     | some d=>
      obtain ⟨q1,q2⟩:=d6n (P:=P) (G:=G) (N:=N) hI hp (h2 d (by simp [Wop])) he
      exact ⟨st',_,_,q1,fun t ht=>h1 t (List.mem_append.2 (.inl ht)),h5⟩
    ·refine gen ?_
     unfold b32
     split
     ·rename_i t
      rw [if_neg]
      intro hc
      exact hm ⟨t,rfl,hc⟩
     ·rfl
   ·obtain ⟨h1,h5⟩:=h
    exact ⟨st',_,_,d28 ho he (fun t ht=>h1 t (List.mem_append.2 (.inr ht))),fun t ht=>h1 t (List.mem_append.2 (.inl ht)),h5⟩
  ·exact h.elim
 | call f args tys=>
  simp only [d1h] at h
  split at h
  ·rename_i st1 hg
   split at h
   ·rename_i st2 hp
    obtain ⟨res,W,h1,h2,h3,h4,h5,h6⟩:=h
    exact ⟨_,_,_,d27 hg hp h1 h2 (fun t ht=>h3 t (List.mem_append.2 (.inr ht))) h4 h5,fun t ht=>h3 t (List.mem_append.2 (.inl ht)),h6⟩
   ·exact h.elim
  ·exact h.elim
 | callx cv args lay tys=>
  simp only [d1h] at h
  obtain ⟨f,fs,cs,pre,L,res,posts,rd,h1,h2,h3,h4,h5,h6,h7,h8,h9,h10,h11,h12,h13,h14,h15⟩:=h
  exact ⟨_,_,_,c9w h1 h2 h3 h4 h5 h6 h7 h8 h9 h10 h11 (fun t ht=>h12 t (List.mem_append.2 (.inr ht))) h13 h14,fun t ht=>h12 t (List.mem_append.2 (.inl ht)),h15⟩
 | nilq T x yT=>exact h.elim
 | bad o=>exact h.elim
theorem a8i:∀ (ios:List AO) (fps:List (List Nat×List Nat)) (K:St->Prop) (st:St),a99 aft.2 st->a93 P G N aft ios fps K st->dCh P G N aft.2 ios fps (fun stn fps=>b5g aft.1 fps=true/\∀ st',(∀ t,t < N->agr stn st' t)->K st') st
 | [],fps,K,st,hI,h=>h
 | io::rest,fps,K,st,hI,h=>by
  simp only [a93] at h
  simp only [dCh]
  cases hg:io.g with
  | none=>
   simp only [hg] at h
   obtain ⟨st',rd,wr,hL,_,hI',hK⟩:=c5z hI h
   refine ⟨st',rd,wr,?_,hI',by simpa using a8i rest _ K st' hI' hK⟩
   have:b0j P G N io=b8i P G N io.dst io.act:=by funext K st; simp only [b0j,hg]
   rw [this]; exact hL
  | some g=>
   obtain ⟨j,t,want⟩:=g
   simp only [hg] at h
   split at h
   ·rename_i v hv
    split at h
    ·rename_i hw
     obtain ⟨st',rd,wr,hL,hex,hI',hK⟩:=c5z hI h
     refine ⟨st',t::rd,wr,?_,hI',by simpa using a8i rest _ K st' hI' hK⟩
     exact {
      lt:=fun u hu=>by
       rcases hu with hu | hu
       ·rcases List.mem_cons.1 hu with rfl | hu
        ·exact hex _ (by simp)
        ·exact hL.lt u (.inl hu)
       ·exact hL.lt u (.inr hu)
      frame:=hL.frame
      loc:=fun st2 hV2 hst K2 hK2=>by
       have h1:st2.s t= .lit v:=by rw [(hst t (.inl (by simp))).1,hv]
       simp only [b0j,hg,h1,hw,if_true]
       exact hL.loc st2 hV2 (fun u hu=>hst u (hu.imp (List.mem_cons_of_mem _) id)) K2 hK2 }
    ·rename_i hw
     obtain ⟨hN,hI',hK⟩:=h
     refine ⟨_,_,_,?_,hI',a8i rest _ K _ hI' hK⟩
     exact {
      lt:=fun u hu=>hN u (by rcases hu with hu | hu<;>simp at hu ⊢<;>simp [hu])
      frame:=fun u hu hn=>by
       cases hd:io.dst with
       | none=>simp only [a4j]; exact agr.refl _ _
       | some d=>
        simp only [a4j]
        refine agr.putn _ ?_
        rintro rfl
        exact hn (by simp [hd])
      loc:=fun st2 hV2 hst K2 hK2=>by
       have h1:st2.s t= .lit v:=by rw [(hst t (.inl (by simp))).1,hv]
       simp only [b0j,hg,h1,hw,Bool.false_eq_true,if_false]
       cases hd:io.dst with
       | none=>
        rw [hd] at hK2
        simp only [a4j] at hK2 ⊢
        exact hK2 _ (fun u hu=>by simp at hu) (fun u _ _=>agr.refl _ _)
       | some d=>
        rw [hd] at hK2 hst
        simp only [a4j] at hK2 ⊢
        refine hK2 _ (fun u hu=> ?_) (fun u _ hn=>agr.putn _ (by rintro rfl; exact hn (by simp)))
        have:u=d:=by simpa using hu
        subst this
        exact (hst u (.inr (by simp))).put _ }
   ·exact h.elim
end
end Go.Ideal
end
