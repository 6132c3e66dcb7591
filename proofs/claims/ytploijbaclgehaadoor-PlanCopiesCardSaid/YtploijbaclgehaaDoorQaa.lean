/- Part Qaa of the proof: walks on a machine that is proved sound. -/
import Derived.WalkKit
import Derived.Orders
import Derived.OrdersHeld
set_option linter.unusedVariables false
set_option linter.unusedSimpArgs false
section
namespace Go.Ideal
inductive AV where
 | dead
 | lit (v:Value)
 | sl (n:Nat) (ks:List AV)
 | ip (ks:List AV) (off:Nat)
 | own (sz n:Nat) (ks:List AV)
 | var (ks:List AV)
 | agg (ks:List AV)
 | tup (ks:List AV)
 | ifc (T:TypeId) (k:AV)
 | fn (f:FuncId) (first caps:List AV)
 | ref (t:Nat) (q:List Nat) (o e:Nat)
 | bor (t:Nat) (q:List Nat) (lo n e:Nat)
 | mp (keys:List Int) (vals:List AV)
 | loan (ks:List AV)
abbrev QR:=AV->Value->Prop
def noQ:QR:=fun _ _=>False
abbrev BS:=Nat->Prop
def noB:BS:=fun _=>False
def C1 (vs:List Value):Prop:=∀ u∈vs,u.oneCell'=true
def b1q (fz:Nat×Nat) (s:Nat):Prop:=fz.1=fz.2\/s<=fz.1
mutual
def R (w:World) (M:BS):AV->QR->BS->Value->Prop
 | .dead,_,_,_=>True
 | .lit u,_,_,v=>v=u
 | .sl n ks,_,_,v=>∃ a c,v= .slice a n c/\n<=c/\∃ vs,C1 vs/\RL w M ks noQ noB vs/\
   (vs=[]\/∃ b o,a=some ⟨b,o,none⟩/\M b/\∀ i u,vs[i]? =some u->w.cell? ⟨b,o+i,none⟩=some u)
 | .ip ks off,_,_,v=>∃ b o vs,v= .pointer (some ⟨b,o+off,none⟩)/\M b/\C1 vs/\RL w M ks noQ noB vs/\
   ∀ i u,vs[i]? =some u->w.cell? ⟨b,o+i,none⟩=some u
 | .own sz n ks,_,F,v=>(n=0/\RL w M ks noQ noB []/\∃ a,v= .slice a 0 0)\/
   ∃ b c cur T fz,v= .slice (some ⟨b,0,none⟩) n c/\F b/\w.heap[b]? =some (.cells cur T fz)/\b1q fz cur.size/\n<=c/\c<=maxLen/\
    cur.size=c*sz/\C1 (cur.toList.take (n*sz))/\RL w M ks noQ (fun x=>F x/\x≠b) (cur.toList.take (n*sz))
 | .var ks,_,F,v=>∃ b cur T fz,v= .pointer (some ⟨b,0,none⟩)/\F b/\w.heap[b]? =some (.cells cur T fz)/\b1q fz cur.size/\
    C1 cur.toList/\RL w M ks noQ (fun x=>F x/\x≠b) cur.toList
 | .agg ks,_,F,v=>∃ arr:Array Value,v= .agg arr/\C1 arr.toList/\RL w M ks noQ F arr.toList
 | .tup ks,_,F,v=>∃ arr:Array Value,v= .tuple arr/\RL w M ks noQ F arr.toList
 | .ifc T k,_,F,v=>∃ u,v= .iface T u/\R w M k noQ F u
 | .fn f fs cs,Q,_,v=>∃ a1 a2:Array Value,v= .func (.func f) a1 a2/\RL w M fs Q noB a1.toList/\RL w M cs Q noB a2.toList
 | .ref t q o e,Q,_,v=>Q (.ref t q o e) v
 | .bor t q lo n e,Q,_,v=>Q (.bor t q lo n e) v
 | .mp keys vals,_,F,v=>∃ b es ck,v= .map (some b)/\F b/\w.heap[b]? =some (.map es ck)/\es.toList.map (·.key)=keys.map (fun k=>Value.int .i64 k)/\RL w M vals noQ noB (es.toList.map (·.val))
 | .loan ks,Q,_,v=>∃ arr:Array Value,v= .agg arr/\C1 arr.toList/\RL w M ks Q noB arr.toList
def RL (w:World) (M:BS):List AV->QR->BS->List Value->Prop
 | [],_,_,vs=>vs=[]
 | k::ks,Q,F,vs=>∃ v vs',vs=v::vs'/\∃ F1 F2:BS,(∀ b,F1 b->F b)/\(∀ b,F2 b->F b)/\(∀ b,F1 b->F2 b->False)/\R w M k Q F1 v/\RL w M ks Q F2 vs'
end
theorem a27 {w w':World} {a:Addr} (h:w'.heap[a.block]? =w.heap[a.block]?):w'.cell? a=w.cell? a:=by simp [World.cell?,h]
mutual
theorem a0t {w w':World} {M M':BS} (hM:∀ b,M b->M' b) (hMw:∀ b,M b->w'.heap[b]? =w.heap[b]?) :
  ∀ (av:AV) {Q Q':QR} {F F':BS} {v:Value},(∀ a u,Q a u->Q' a u)->(∀ b,F b->F' b)->(∀ b,F b->w'.heap[b]? =w.heap[b]?)->
   R w M av Q F v->R w' M' av Q' F' v
 | .dead,_,_,_,_,_,_,_,_,_=>by simp only [R]
 | .lit u,_,_,_,_,_,_,_,_,h=>by simp only [R] at *; exact h
 | .sl n ks,_,_,_,_,_,_,_,_,h=>by
  simp only [R] at *
  obtain ⟨a,c,hv,hc,vs,h1,hr,h⟩:=h
  refine ⟨a,c,hv,hc,vs,h1,a1a hM hMw ks (fun _ _ h=>h) (fun _ h=>h) (fun _ h=>h.elim) hr,?_⟩
  rcases h with h | ⟨b,o,ha,hb,hcell⟩
  ·exact .inl h
  ·exact .inr ⟨b,o,ha,hM b hb,fun i u hu=>by rw [a27 (hMw b hb)]; exact hcell i u hu⟩
 | .ip ks off,_,_,_,_,_,_,_,_,h=>by
  simp only [R] at *
  obtain ⟨b,o,vs,hv,hb,h1,hr,hcell⟩:=h
  exact ⟨b,o,vs,hv,hM b hb,h1,a1a hM hMw ks (fun _ _ h=>h) (fun _ h=>h) (fun _ h=>h.elim) hr,fun i u hu=>by rw [a27 (hMw b hb)]; exact hcell i u hu⟩
 | .own sz n ks,_,_,F,F',_,_,hF,hw,h=>by
  simp only [R] at *
  rcases h with ⟨h0,h1,h2⟩ | ⟨b,c,cur,T,fz,hv,hb,hh,hz,h1,h2,h3,h4,hr⟩
  ·exact .inl ⟨h0,a1a hM hMw ks (fun _ _ h=>h) (fun _ h=>h) (fun _ h=>h.elim) h1,h2⟩
  ·exact .inr ⟨b,c,cur,T,fz,hv,hF b hb,by rw [hw b hb]; exact hh,hz,h1,h2,h3,h4,a1a hM hMw ks (fun _ _ h=>h) (fun x hx=>⟨hF x hx.1,hx.2⟩) (fun x hx=>hw x hx.1) hr⟩
 | .var ks,_,_,F,F',_,_,hF,hw,h=>by
  simp only [R] at *
  obtain ⟨b,cur,T,fz,hv,hb,hh,hz,h1,hr⟩:=h
  exact ⟨b,cur,T,fz,hv,hF b hb,by rw [hw b hb]; exact hh,hz,h1,a1a hM hMw ks (fun _ _ h=>h) (fun x hx=>⟨hF x hx.1,hx.2⟩) (fun x hx=>hw x hx.1) hr⟩
 | .agg ks,_,_,F,F',_,_,hF,hw,h=>by
  simp only [R] at *
  obtain ⟨arr,hv,h1,hr⟩:=h
  exact ⟨arr,hv,h1,a1a hM hMw ks (fun _ _ h=>h) hF hw hr⟩
 | .tup ks,_,_,F,F',_,_,hF,hw,h=>by
  simp only [R] at *
  obtain ⟨arr,hv,hr⟩:=h
  exact ⟨arr,hv,a1a hM hMw ks (fun _ _ h=>h) hF hw hr⟩
 | .ifc T k,_,_,F,F',_,_,hF,hw,h=>by
  simp only [R] at *
  obtain ⟨u,hv,hr⟩:=h
  exact ⟨u,hv,a0t hM hMw k (fun _ _ h=>h) hF hw hr⟩
 | .fn f fs cs,_,_,F,F',_,hQ,hF,hw,h=>by
  simp only [R] at *
  obtain ⟨a1,a2,hv,h1,h2⟩:=h
  exact ⟨a1,a2,hv,a1a hM hMw fs hQ (fun _ h=>h) (fun _ h=>h.elim) h1,a1a hM hMw cs hQ (fun _ h=>h) (fun _ h=>h.elim) h2⟩
 | .ref t q o e,_,_,_,_,_,hQ,_,_,h=>by simp only [R] at *; exact hQ _ _ h
 | .bor t q lo n e,_,_,_,_,_,hQ,_,_,h=>by simp only [R] at *; exact hQ _ _ h
 | .mp keys vals,_,_,F,F',_,_,hF,hw,h=>by
  simp only [R] at *
  obtain ⟨b,es,ck,hv,hb,hh,hk,hr⟩:=h
  exact ⟨b,es,ck,hv,hF b hb,by rw [hw b hb]; exact hh,hk,a1a hM hMw vals (fun _ _ h=>h) (fun _ h=>h) (fun _ h=>h.elim) hr⟩
 | .loan ks,_,_,F,F',_,hQ,_,_,h=>by
  simp only [R] at *
  obtain ⟨arr,hv,h1,hr⟩:=h
  exact ⟨arr,hv,h1,a1a hM hMw ks hQ (fun _ h=>h) (fun _ h=>h.elim) hr⟩
theorem a1a {w w':World} {M M':BS} (hM:∀ b,M b->M' b) (hMw:∀ b,M b->w'.heap[b]? =w.heap[b]?) :
  ∀ (ks:List AV) {Q Q':QR} {F F':BS} {vs:List Value},(∀ a u,Q a u->Q' a u)->(∀ b,F b->F' b)->(∀ b,F b->w'.heap[b]? =w.heap[b]?)->
   RL w M ks Q F vs->RL w' M' ks Q' F' vs
 | [],_,_,_,_,_,_,_,_,h=>by simp only [RL] at *; exact h
 | k::ks,_,_,F,F',_,hQ,hF,hw,h=>by
  simp only [RL] at *
  obtain ⟨v,vs',hv,F1,F2,h1,h2,hd,hr,hrs⟩:=h
  exact ⟨v,vs',hv,F1,F2,fun b hb=>hF b (h1 b hb),fun b hb=>hF b (h2 b hb),hd,a0t hM hMw k hQ (fun _ h=>h) (fun b hb=>hw b (h1 b hb)) hr,
   a1a hM hMw ks hQ (fun _ h=>h) (fun b hb=>hw b (h2 b hb)) hrs⟩
end
mutual
def frz:AV->AV
 | .own _ n ks=> .sl n (a1b ks)
 | .var ks=> .ip (a1b ks) 0
 | .agg ks=> .agg (a1b ks)
 | .tup ks=> .tup (a1b ks)
 | .ifc T k=> .ifc T (frz k)
 | .mp _ _=> .dead
 | av=>av
def a1b:List AV->List AV
 | []=>[]
 | k::ks=>frz k::a1b ks
end
theorem b6t:∀ ks:List AV,a1b ks=ks.map frz
 | []=>rfl
 | k::ks=>by simp only [a1b,List.map_cons,b6t ks]
theorem a0m {w:World} {M:BS}:∀ {ks:List AV} {Q:QR} {F:BS} {vs:List Value},RL w M ks Q F vs->vs.length=ks.length
 | [],_,_,_,h=>by simp only [RL] at h; simp [h]
 | k::ks,_,_,_,h=>by
  simp only [RL] at h
  obtain ⟨v,vs',rfl,_,_,_,_,_,_,hr⟩:=h
  simp [a0m hr]
theorem a1i {cur:Array Value} {m i:Nat} {u:Value} (h:(cur.toList.take m)[i]? =some u):cur[i]? =some u:=by
 rw [List.getElem?_take] at h
 split at h
 ·simpa using h
 ·simp at h
theorem a0z {w:World} {b:Nat} {cur:Array Value} {T:TypeId} {fz:Nat×Nat} (h:w.heap[b]? =some (.cells cur T fz)) (i:Nat):w.cell? ⟨b,i,none⟩=cur[i]? :=by
 simp [World.cell?,h]
mutual
theorem b6u {w:World} {M M':BS} (hM:∀ b,M b->M' b):∀ (av:AV) {Q:QR} {F:BS} {v:Value},(∀ b,F b->M' b)->R w M av Q F v->R w M' (frz av) Q noB v
 | .dead,_,_,_,_,_=>by simp only [frz,R]
 | .lit u,_,_,_,_,h=>by simp only [frz,R] at *; exact h
 | .sl n ks,_,_,_,_,h=>by
  simp only [frz]; exact a0t hM (fun _ _=>rfl) (.sl n ks) (F:=noB) (fun _ _ h=>h) (fun _ h=>h) (fun _ _=>rfl) (by simp only [R] at *; exact h)
 | .ip ks off,_,_,_,_,h=>by
  simp only [frz]; exact a0t hM (fun _ _=>rfl) (.ip ks off) (F:=noB) (fun _ _ h=>h) (fun _ h=>h) (fun _ _=>rfl) (by simp only [R] at *; exact h)
 | .own sz n ks,Q,F,v,hF,h=>by
  simp only [frz,R] at *
  rcases h with ⟨h0,h1,a,hv⟩ | ⟨b,c,cur,T,fz,hv,hb,hh,hz,h1,h2,h3,h4,hr⟩
  ·subst h0
   exact ⟨a,0,hv,Nat.le_refl _,[],(fun _ h=>by cases h),b0t hM ks (fun _ h=>h.elim) h1,.inl rfl⟩
  ·refine ⟨_,c,hv,h1,_,h4,b0t hM ks (fun x hx=>hF x hx.1) hr,.inr ⟨b,0,rfl,hF b hb,fun i u hu=> ?_⟩⟩
   rw [Nat.zero_add,a0z hh]
   exact a1i hu
 | .var ks,Q,F,v,hF,h=>by
  simp only [frz,R] at *
  obtain ⟨b,cur,T,fz,hv,hb,hh,hz,h1,hr⟩:=h
  refine ⟨b,0,_,hv,hF b hb,h1,b0t hM ks (fun x hx=>hF x hx.1) hr,fun i u hu=> ?_⟩
  rw [Nat.zero_add,a0z hh]
  simpa using hu
 | .agg ks,Q,F,v,hF,h=>by
  simp only [frz,R] at *
  obtain ⟨arr,hv,h1,hr⟩:=h
  exact ⟨arr,hv,h1,b0t hM ks hF hr⟩
 | .tup ks,Q,F,v,hF,h=>by
  simp only [frz,R] at *
  obtain ⟨arr,hv,hr⟩:=h
  exact ⟨arr,hv,b0t hM ks hF hr⟩
 | .ifc T k,Q,F,v,hF,h=>by
  simp only [frz,R] at *
  obtain ⟨u,hv,hr⟩:=h
  exact ⟨u,hv,b6u hM k hF hr⟩
 | .fn f fs cs,Q,F,v,hF,h=>by
  simp only [frz]; exact a0t hM (fun _ _=>rfl) (.fn f fs cs) (F:=noB) (fun _ _ h=>h) (fun _ h=>h) (fun _ _=>rfl) (by simp only [R] at *; exact h)
 | .ref t q o e,Q,F,v,hF,h=>by simp only [frz,R] at *; exact h
 | .bor t q lo n e,Q,F,v,hF,h=>by simp only [frz,R] at *; exact h
 | .mp keys vals,Q,F,v,hF,h=>by simp only [frz,R]
 | .loan ks,Q,F,v,hF,h=>by
  simp only [frz]; exact a0t hM (fun _ _=>rfl) (.loan ks) (F:=noB) (fun _ _ h=>h) (fun _ h=>h) (fun _ _=>rfl) (by simp only [R] at *; exact h)
theorem b0t {w:World} {M M':BS} (hM:∀ b,M b->M' b):∀ (ks:List AV) {Q:QR} {F:BS} {vs:List Value},(∀ b,F b->M' b)->RL w M ks Q F vs->RL w M' (a1b ks) Q noB vs
 | [],_,_,_,_,h=>by simp only [a1b,RL] at *; exact h
 | k::ks,Q,F,vs,hF,h=>by
  simp only [a1b,RL] at *
  obtain ⟨v,vs',hv,F1,F2,h1,h2,hd,hr,hrs⟩:=h
  exact ⟨v,vs',hv,noB,noB,fun _ h=>h,fun _ h=>h,fun _ h _=>h,b6u hM k (fun b hb=>hF b (h1 b hb)) hr,b0t hM ks (fun b hb=>hF b (h2 b hb)) hrs⟩
end
theorem a16 {w:World} {M:BS}:∀ {ks1 ks2:List AV} {Q:QR} {F:BS} {vs:List Value},RL w M (ks1++ks2) Q F vs->
  ∃ vs1 vs2,vs=vs1++vs2/\∃ F1 F2:BS,(∀ b,F1 b->F b)/\(∀ b,F2 b->F b)/\(∀ b,F1 b->F2 b->False)/\RL w M ks1 Q F1 vs1/\RL w M ks2 Q F2 vs2
 | [],ks2,Q,F,vs,h=>⟨[],vs,rfl,noB,F,fun _ h=>h.elim,fun _ h=>h,fun _ h _=>h,by simp only [RL],h⟩
 | k::ks1,ks2,Q,F,vs,h=>by
  simp only [List.cons_append,RL] at h
  obtain ⟨v,vs',rfl,F1,F2,h1,h2,hd,hr,hrs⟩:=h
  obtain ⟨vs1,vs2,rfl,G1,G2,g1,g2,gd,a1,a2⟩:=a16 hrs
  refine ⟨v::vs1,vs2,rfl,fun x=>F1 x\/G1 x,G2,?_,fun b hb=>h2 b (g2 b hb),?_,?_,a2⟩
  ·rintro b (hb | hb)
   ·exact h1 b hb
   ·exact h2 b (g1 b hb)
  ·rintro b (hb | hb) hb2
   ·exact hd b hb (g2 b hb2)
   ·exact gd b hb hb2
  ·simp only [RL]
   exact ⟨v,vs1,rfl,F1,G1,fun _ h=> .inl h,fun _ h=> .inr h,fun b hb hb2=>hd b hb (g1 b hb2),hr,a1⟩
theorem a1e {w:World} {M:BS}:∀ {ks1 ks2:List AV} {Q:QR} {F1 F2:BS} {vs1 vs2:List Value},RL w M ks1 Q F1 vs1->RL w M ks2 Q F2 vs2->(∀ b,F1 b->F2 b->False)->
  RL w M (ks1++ks2) Q (fun x=>F1 x\/F2 x) (vs1++vs2)
 | [],ks2,Q,F1,F2,vs1,vs2,h1,h2,_=>by
  simp only [RL] at h1
  subst h1
  exact a1a (fun _ h=>h) (fun _ _=>rfl) ks2 (fun _ _ h=>h) (fun _ h=> .inr h) (fun _ _=>rfl) h2
 | k::ks1,ks2,Q,F1,F2,vs1,vs2,h1,h2,hd=>by
  simp only [List.cons_append,RL] at *
  obtain ⟨v,vs',rfl,G1,G2,g1,g2,gd,hr,hrs⟩:=h1
  refine ⟨v,vs'++vs2,rfl,G1,fun x=>G2 x\/F2 x,fun b hb=> .inl (g1 b hb),?_,?_,hr,a1e hrs h2 (fun b hb hb2=>hd b (g2 b hb) hb2)⟩
  ·rintro b (hb | hb)
   ·exact .inl (g2 b hb)
   ·exact .inr hb
  ·rintro b hb (hb2 | hb2)
   ·exact gd b hb hb2
   ·exact hd b (g1 b hb) hb2
theorem a1r {w:World} {M:BS} {ks:List AV} {Q:QR} {F F':BS} {vs:List Value} (hF:∀ b,F b->F' b) (h:RL w M ks Q F vs):RL w M ks Q F' vs:=
 a1a (fun _ h=>h) (fun _ _=>rfl) ks (fun _ _ h=>h) hF (fun _ _=>rfl) h
theorem a1l {w:World} {M:BS} {av:AV} {Q:QR} {F F':BS} {v:Value} (hF:∀ b,F b->F' b) (h:R w M av Q F v):R w M av Q F' v:=
 a0t (fun _ h=>h) (fun _ _=>rfl) av (fun _ _ h=>h) hF (fun _ _=>rfl) h
theorem a5g {w:World} {M:BS}:∀ {ks:List AV} {i:Nat} {k:AV} {Q:QR} {F:BS} {vs:List Value},RL w M ks Q F vs->ks[i]? =some k->
  ∃ u,vs[i]? =some u/\∃ F1 G:BS,(∀ b,F1 b->F b)/\(∀ b,G b->F b)/\(∀ b,F1 b->G b->False)/\R w M k Q F1 u/\
   ∀ (w':World) (M':BS) (k':AV) (u':Value) (F':BS),(∀ b,M b->M' b)->(∀ b,M b->w'.heap[b]? =w.heap[b]?)->(∀ b,G b->w'.heap[b]? =w.heap[b]?)->
    (∀ b,F' b->G b->False)->R w' M' k' Q F' u'->RL w' M' (ks.set i k') Q (fun x=>F' x\/G x) (vs.set i u')
 | [],i,k,Q,F,vs,h,hi=>by simp at hi
 | k0::ks,0,k,Q,F,vs,h,hi=>by
  simp only [RL] at h
  obtain ⟨v,vs',rfl,F1,F2,h1,h2,hd,hr,hrs⟩:=h
  simp only [List.getElem?_cons_zero,Option.some.injEq] at hi
  subst hi
  refine ⟨v,rfl,F1,F2,h1,h2,hd,hr,fun w' M' k' u' F' hM hMw hG hd' hr'=> ?_⟩
  simp only [List.set_cons_zero,RL]
  exact ⟨u',vs',rfl,F',F2,fun _ h=> .inl h,fun _ h=> .inr h,hd',hr',a1a hM hMw ks (fun _ _ h=>h) (fun _ h=>h) hG hrs⟩
 | k0::ks,i+1,k,Q,F,vs,h,hi=>by
  simp only [RL] at h
  obtain ⟨v,vs',rfl,F1,F2,h1,h2,hd,hr,hrs⟩:=h
  simp only [List.getElem?_cons_succ] at hi
  obtain ⟨u,hu,E,G,e1,g1,ed,er,fill⟩:=a5g hrs hi
  refine ⟨u,by simpa using hu,E,fun x=>F1 x\/G x,fun b hb=>h2 b (e1 b hb),?_,?_,er,fun w' M' k' u' F' hM hMw hG hd' hr'=> ?_⟩
  ·rintro b (hb | hb)
   ·exact h1 b hb
   ·exact h2 b (g1 b hb)
  ·rintro b hb (hb2 | hb2)
   ·exact hd b hb2 (e1 b hb)
   ·exact ed b hb hb2
  ·simp only [List.set_cons_succ,RL]
   refine ⟨v,vs'.set i u',rfl,F1,fun x=>F' x\/G x,fun _ h=> .inr (.inl h),?_,?_,a0t hM hMw k0 (fun _ _ h=>h) (fun _ h=>h) (fun b hb=>hG b (.inl hb)) hr,
    fill w' M' k' u' F' hM hMw (fun b hb=>hG b (.inr hb)) (fun b hb hb2=>hd' b hb (.inr hb2)) hr'⟩
   ·rintro b (hb | hb)
    ·exact .inl hb
    ·exact .inr (.inr hb)
   ·rintro b hb (hb2 | hb2)
    ·exact hd' b hb2 (.inl hb)
    ·exact hd b hb (g1 b hb2)
def a0l:AV->Option (List AV)
 | .own _ _ ks=>some ks
 | .var ks=>some ks
 | _=>none
def nm:AV->Bool
 | .own _ _ _=>true
 | .var _=>true
 | .mp _ _=>true
 | _=>false
@[simp] theorem d4t {sz n:Nat} {ks:List AV}:nm (.own sz n ks)=true:=(rfl)
@[simp] theorem d4w {ks:List AV}:nm (.var ks)=true:=(rfl)
@[simp] theorem e6g {ks:List Int} {vs:List AV}:nm (.mp ks vs)=true:=(rfl)
@[simp] theorem c54:nm .dead=false:=(rfl)
@[simp] theorem d4s {u:Value}:nm (.lit u)=false:=(rfl)
@[simp] theorem e6h {n:Nat} {ks:List AV}:nm (.sl n ks)=false:=(rfl)
@[simp] theorem e6f {n:Nat} {ks:List AV}:nm (.ip ks n)=false:=(rfl)
@[simp] theorem d4p {ks:List AV}:nm (.agg ks)=false:=(rfl)
@[simp] theorem d4v {ks:List AV}:nm (.tup ks)=false:=(rfl)
@[simp] theorem d4r {T:TypeId} {k:AV}:nm (.ifc T k)=false:=(rfl)
@[simp] theorem e6e {f:FuncId} {a b:List AV}:nm (.fn f a b)=false:=(rfl)
@[simp] theorem d4u {t o e:Nat} {q:List Nat}:nm (.ref t q o e)=false:=(rfl)
@[simp] theorem d4q {t lo n e:Nat} {q:List Nat}:nm (.bor t q lo n e)=false:=(rfl)
@[simp] theorem c55 {ks:List AV}:nm (.loan ks)=false:=(rfl)
def c36:AV->Bool
 | .mp _ _=>true
 | _=>false
theorem c39 {v:AV} (h:nm v=false):a0l v=none:=by cases v<;>simp_all [nm,a0l]
theorem c03 {v:AV} (h:(a0l v).isSome=true):nm v=true:=by cases v<;>simp_all [nm,a0l]
def a2u:AV->List Nat->Option (List AV)
 | av,[]=>a0l av
 | av,i::q=>match a0l av with
  | some ks=>match ks[i]? with
   | some k=>a2u k q
   | none=>none
  | none=>none
def a3l:AV->List AV->AV
 | .own sz n _,ks=> .own sz n ks
 | .var _,ks=> .var ks
 | av,_=>av
def setRow:AV->List Nat->List AV->AV
 | av,[],ks'=>a3l av ks'
 | av,i::q,ks'=>match a0l av with
  | some ks=>match ks[i]? with
   | some k=>a3l av (ks.set i (setRow k q ks'))
   | none=>av
  | none=>av
def a8f:Value->Option Nat
 | .slice (some a) _ _=>some a.block
 | .pointer (some a)=>some a.block
 | _=>none
def blk (w:World):Value->List Nat->Option Nat
 | v,[]=>a8f v
 | v,i::q=>match a8f v with
  | some b=>match w.cell? ⟨b,i,none⟩ with
   | some x=>blk w x q
   | none=>none
  | none=>none
theorem b6c {w:World} {M:BS} {av:AV} {Q:QR} {F:BS} {v:Value} {ks:List AV} (h:R w M av Q F v) (hr:a0l av=some ks) (hne:ks≠[]) :
  ∃ b cur T fz,a8f v=some b/\F b/\w.heap[b]? =some (.cells cur T fz)/\b1q fz cur.size/\ks.length<=cur.size/\C1 (cur.toList.take ks.length)/\RL w M ks noQ (fun x=>F x/\x≠b) (cur.toList.take ks.length)/\
   ∀ (w':World) (M':BS) (Q':QR) (cur':Array Value) (ks':List AV) (F':BS),w'.heap[b]? =some (.cells cur' T fz)->cur'.size=cur.size->ks'.length=ks.length->(∀ x,F' x->x≠b)->
    C1 (cur'.toList.take ks.length)->RL w' M' ks' noQ F' (cur'.toList.take ks.length)->R w' M' (a3l av ks') Q' (fun x=>F' x\/x=b) v:=by
 cases av<;>simp only [a0l,reduceCtorEq,Option.some.injEq] at hr
 case own sz n ks0=>
  subst hr
  simp only [R] at h
  rcases h with ⟨h0,h1,a,hv⟩ | ⟨b,c,cur,T,fz,hv,hb,hh,hz,h1,h2,h3,h4,hr⟩
  ·have:=a0m h1
   simp at this
   exact absurd this.symm (by simpa using hne)
  ·have hl:=a0m hr
   have hnc:n*sz<=cur.size:=by rw [h3]; exact Nat.mul_le_mul_right _ h1
   have hl':ks0.length=n*sz:=by
    rw [<-hl,List.length_take,Array.length_toList]; omega
   refine ⟨b,cur,T,fz,by rw [hv]; rfl,hb,hh,hz,by omega,by rw [hl']; exact h4,by rw [hl']; exact hr,fun w' M' Q' cur' ks' F' hh' hs hk hF' hc' hr'=> ?_⟩
   simp only [a3l,R]
   refine .inr ⟨b,c,cur',T,fz,hv,.inr rfl,hh',by rw [hs]; exact hz,h1,h2,by rw [hs]; exact h3,by rw [hl'] at hc'; exact hc',?_⟩
   rw [hl'] at hr'
   exact a1r (fun x hx=>⟨.inl hx,hF' x hx⟩) hr'
 case var ks0=>
  subst hr
  simp only [R] at h
  obtain ⟨b,cur,T,fz,hv,hb,hh,hz,h1,hr⟩:=h
  have hl:=a0m hr
  have hl':ks0.length=cur.size:=by rw [<-hl,Array.length_toList]
  have ht:∀ c:Array Value,c.size=cur.size->c.toList.take ks0.length=c.toList:=fun c hc=>List.take_of_length_le (by rw [Array.length_toList,hl',hc]; exact Nat.le_refl _)
  refine ⟨b,cur,T,fz,by rw [hv]; rfl,hb,hh,hz,by omega,by rw [ht cur rfl]; exact h1,by rw [ht cur rfl]; exact hr,fun w' M' Q' cur' ks' F' hh' hs hk hF' hc' hr'=> ?_⟩
  simp only [a3l,R]
  refine ⟨b,cur',T,fz,hv,.inr rfl,hh',by rw [hs]; exact hz,by rw [ht cur' hs] at hc'; exact hc',?_⟩
  rw [ht cur' hs] at hr'
  exact a1r (fun x hx=>⟨.inl hx,hF' x hx⟩) hr'
theorem b2f {w:World} {M:BS}:∀ (q:List Nat) {av:AV} {Q:QR} {F:BS} {v:Value} {ks:List AV},R w M av Q F v->a2u av q=some ks->ks≠[]->
  ∃ b cur T fz,blk w v q=some b/\F b/\w.heap[b]? =some (.cells cur T fz)/\b1q fz cur.size/\ks.length<=cur.size/\C1 (cur.toList.take ks.length)/\
   ∃ Fk G:BS,(∀ x,Fk x->F x/\x≠b/\¬ G x)/\(∀ x,G x->F x/\x≠b)/\RL w M ks noQ Fk (cur.toList.take ks.length)/\
   ∀ (w':World) (M':BS) (Q':QR) (cur':Array Value) (ks':List AV) (F':BS),(∀ x,M x->M' x)->(∀ x,M x->w'.heap[x]? =w.heap[x]?)->(∀ x,G x->w'.heap[x]? =w.heap[x]?)->
    w'.heap[b]? =some (.cells cur' T fz)->cur'.size=cur.size->ks'.length=ks.length->(∀ x,F' x->x≠b/\¬ G x)->
    C1 (cur'.toList.take ks.length)->RL w' M' ks' noQ F' (cur'.toList.take ks.length)->R w' M' (setRow av q ks') Q' (fun x=>F' x\/G x\/x=b) v
 | [],av,Q,F,v,ks,h,hr,hne=>by
  obtain ⟨b,cur,T,fz,h1,h2,h3,h4,h5,h5c,h6,fill⟩:=b6c h hr hne
  refine ⟨b,cur,T,fz,h1,h2,h3,h4,h5,h5c,fun x=>F x/\x≠b,noB,fun x hx=>⟨hx.1,hx.2,fun h=>h⟩,fun _ h=>h.elim,h6,fun w' M' Q' cur' ks' F' _ _ _ hh hs hk hF hc hr=> ?_⟩
  simp only [setRow]
  exact a1l (fun x hx=>hx.elim .inl (fun h=> .inr (.inr h))) (fill w' M' Q' cur' ks' F' hh hs hk (fun x hx=>(hF x hx).1) hc hr)
 | i::q,av,Q,F,v,ks,h,hr,hne=>by
  simp only [a2u] at hr
  cases h0:a0l av with
  | none=>simp [h0] at hr
  | some ks0=>
   simp only [h0] at hr
   cases hk:ks0[i]? with
   | none=>simp [hk] at hr
   | some k=>
    simp only [hk] at hr
    have hne0:ks0≠[]:=by intro he; simp [he] at hk
    obtain ⟨b0,cur0,T0,fz0,g1,g2,g3,g4,g5,g5c,g6,fill0⟩:=b6c h h0 hne0
    obtain ⟨u,hu,F1,G1,f1,f2,f3,f4,fill1⟩:=a5g g6 hk
    obtain ⟨b,cur,T,fz,e1,e2,e3,e4,e5,e5c,Fk,G,e6,e7,e8,fill2⟩:=b2f q f4 hr hne
    refine ⟨b,cur,T,fz,?_,(f1 b e2).1,e3,e4,e5,e5c,Fk,fun x=>G x\/G1 x\/x=b0,fun x hx=>⟨(f1 x (e6 x hx).1).1,(e6 x hx).2.1,?_⟩,?_,e8,fun w' M' Q' cur' ks' F' hM hMw hG hh hs hkl hF hc hr'=> ?_⟩
    ·simp only [blk,g1,a0z g3,a1i hu,e1]
    ·rintro (hg | hg | hg)
     ·exact (e6 x hx).2.2 hg
     ·exact f3 x (e6 x hx).1 hg
     ·exact (f1 x (e6 x hx).1).2 hg
    ·rintro x (hx | hx | hx)
     ·exact ⟨(f1 x (e7 x hx).1).1,(e7 x hx).2⟩
     ·exact ⟨(f2 x hx).1,fun hb=>f3 b e2 (hb ▸ hx)⟩
     ·subst hx; exact ⟨g2,fun hb=>(f1 b e2).2 hb.symm⟩
    ·simp only [setRow,h0,hk]
     have r2:=fill2 w' M' noQ cur' ks' F' hM hMw (fun x hx=>hG x (.inl hx)) hh hs hkl (fun x hx=>⟨(hF x hx).1,fun hg=>(hF x hx).2 (.inl hg)⟩) hc hr'
     have r1:=fill1 w' M' (setRow k q ks') u (fun x=>F' x\/G x\/x=b) hM hMw (fun x hx=>hG x (.inr (.inl hx))) (by
      rintro x (hx | hx | hx) hg
      ·exact (hF x hx).2 (.inr (.inl hg))
      ·exact f3 x (e7 x hx).1 hg
      ·subst hx; exact f3 x e2 hg) r2
     have hset:((cur0.toList.take ks0.length).set i u)=cur0.toList.take ks0.length:=by
      apply List.ext_getElem?
      intro j
      rw [List.getElem?_set]
      split
      ·rename_i hij; subst hij
       split
       ·exact hu.symm
       ·rename_i hlt
        have:=List.getElem?_eq_some_iff.1 hu
        exact absurd this.1 hlt
      ·rfl
     rw [hset] at r1
     have hh0:w'.heap[b0]? =some (.cells cur0 T0 fz0):=by rw [hG b0 (.inr (.inr rfl))]; exact g3
     have r0:=fill0 w' M' Q' cur0 (ks0.set i (setRow k q ks')) (fun x=>(F' x\/G x\/x=b)\/G1 x) hh0 rfl (by simp) (by
      rintro x ((hx | hx | hx) | hx)
      ·exact fun hb=>(hF x hx).2 (.inr (.inr hb))
      ·exact (f1 x (e7 x hx).1).2
      ·subst hx; exact (f1 x e2).2
      ·exact (f2 x hx).2) g5c r1
     refine a1l ?_ r0
     rintro x (((hx | hx | hx) | hx) | hx)
     ·exact .inl hx
     ·exact .inr (.inl (.inl hx))
     ·exact .inr (.inr hx)
     ·exact .inr (.inl (.inr (.inl hx)))
     ·exact .inr (.inl (.inr (.inr hx)))
def a0c:AV->List Nat->Option AV
 | av,[]=>some av
 | av,i::q=>match a0l av with
  | some ks=>match ks[i]? with
   | some k=>a0c k q
   | none=>none
  | none=>none
def a0h:AV->List Nat->AV->AV
 | _,[],k'=>k'
 | av,i::q,k'=>match a0l av with
  | some ks=>match ks[i]? with
   | some k=>a3l av (ks.set i (a0h k q k'))
   | none=>av
  | none=>av
def a06 (w:World):Value->List Nat->Option Value
 | v,[]=>some v
 | v,i::q=>match a8f v with
  | some b=>match w.cell? ⟨b,i,none⟩ with
   | some x=>a06 w x q
   | none=>none
  | none=>none
theorem b2w:∀ (q:List Nat) (av:AV),a2u av q=(a0c av q).bind a0l
 | [],av=>rfl
 | i::q,av=>by
  simp only [a2u,a0c]
  cases a0l av with
  | none=>rfl
  | some ks=>cases h:ks[i]? with
   | none=>simp [h]
   | some k=>simp [h,b2w q k]
theorem b9y (w:World):∀ (q:List Nat) (v:Value),blk w v q=(a06 w v q).bind a8f
 | [],v=>rfl
 | i::q,v=>by
  simp only [blk,a06]
  cases a8f v with
  | none=>rfl
  | some b=>cases h:w.cell? ⟨b,i,none⟩ with
   | none=>simp [h]
   | some k=>simp [h,b9y w q k]
theorem b32 {l:List Value} {i:Nat} {u:Value} (h:l[i]? =some u):l.set i u=l:=by
 apply List.ext_getElem?
 intro j
 rw [List.getElem?_set]
 split
 ·rename_i hij; subst hij
  split
  ·exact h.symm
  ·rename_i hlt; exact absurd (List.getElem?_eq_some_iff.1 h).1 hlt
 ·rfl
theorem a32 {w:World} {M:BS}:∀ (q:List Nat) {av:AV} {Q:QR} {F:BS} {v:Value} {k:AV},R w M av Q F v->a0c av q=some k->
  ∃ u,a06 w v q=some u/\∃ Fk G:BS,(∀ x,Fk x->F x)/\(∀ x,G x->F x)/\(∀ x,Fk x->G x->False)/\R w M k (if q=[] then Q else noQ) Fk u/\
   ∀ (M':BS) (k':AV) (F':BS) (Q':QR),(∀ x,M x->M' x)->(∀ x,F' x->G x->False)->R w M' k' (if q=[] then Q' else noQ) F' u->R w M' (a0h av q k') Q' (fun x=>F' x\/G x) v
 | [],av,Q,F,v,k,h,hk=>by
  simp only [a0c,Option.some.injEq] at hk
  subst hk
  refine ⟨v,rfl,F,noB,fun _ h=>h,fun _ h=>h.elim,fun _ _ h=>h,by simpa using h,fun M' k' F' Q' _ _ hr=> ?_⟩
  simp only [a0h]
  exact a1l (fun x hx=> .inl hx) (by simpa using hr)
 | i::q,av,Q,F,v,k,h,hk=>by
  simp only [a0c] at hk
  cases h0:a0l av with
  | none=>simp [h0] at hk
  | some ks0=>
   simp only [h0] at hk
   cases hi:ks0[i]? with
   | none=>simp [hi] at hk
   | some k0=>
    simp only [hi] at hk
    have hne0:ks0≠[]:=by intro he; simp [he] at hi
    obtain ⟨b0,cur0,T0,fz0,g1,g2,g3,g4,g5,g5c,g6,fill0⟩:=b6c h h0 hne0
    obtain ⟨u0,hu,F1,G1,f1,f2,f3,f4,fill1⟩:=a5g g6 hi
    obtain ⟨u,e1,Fk,G,e2,e3,e4,e5,fill2⟩:=a32 q f4 hk
    refine ⟨u,?_,Fk,fun x=>G x\/G1 x\/x=b0,fun x hx=>(f1 x (e2 x hx)).1,?_,?_,?_,fun M' k' F' Q' hM hd hr=> ?_⟩
    ·simp only [a06,g1,a0z g3,a1i hu,e1]
    ·rintro x (hx | hx | hx)
     ·exact (f1 x (e3 x hx)).1
     ·exact (f2 x hx).1
     ·subst hx; exact g2
    ·rintro x hx (hg | hg | hg)
     ·exact e4 x hx hg
     ·exact f3 x (e2 x hx) hg
     ·exact (f1 x (e2 x hx)).2 hg
    ·simp only [reduceCtorEq,if_false]
     split at e5<;>exact e5
    ·simp only [a0h,h0,hi]
     have r2:=fill2 M' k' F' noQ hM (fun x hx hg=>hd x hx (.inl hg)) (by split<;>simpa using hr)
     have r1:=fill1 w M' (a0h k0 q k') u0 (fun x=>F' x\/G x) hM (fun _ _=>rfl) (fun _ _=>rfl) (by
      rintro x (hx | hx) hg
      ·exact hd x hx (.inr (.inl hg))
      ·exact f3 x (e3 x hx) hg) r2
     rw [b32 hu] at r1
     have r0:=fill0 w M' Q' cur0 (ks0.set i (a0h k0 q k')) (fun x=>(F' x\/G x)\/G1 x) g3 rfl (by simp) (by
      rintro x ((hx | hx) | hx)
      ·exact fun hb=>hd x hx (.inr (.inr hb))
      ·exact (f1 x (e3 x hx)).2
      ·exact (f2 x hx).2) g5c r1
     refine a1l ?_ r0
     rintro x (((hx | hx) | hx) | hx)
     ·exact .inl hx
     ·exact .inr (.inl hx)
     ·exact .inr (.inr (.inl hx))
     ·exact .inr (.inr (.inr hx))
structure St where
 s:Nat->AV
 ep:Nat->Nat
mutual
def a0x (kl:Nat->List Nat->Bool):AV->AV
 | .ref t q o e=>if kl t q then .dead else .ref t q o e
 | .bor t q lo n e=>if kl t q then .dead else .bor t q lo n e
 | .fn f fs cs=> .fn f (b0c kl fs) (b0c kl cs)
 | .loan ks=> .loan (b0c kl ks)
 | av=>av
def b0c (kl:Nat->List Nat->Bool):List AV->List AV
 | []=>[]
 | k::ks=>a0x kl k::b0c kl ks
end
def QS (w:World) (st:St) (val:Nat->Value):QR:=fun av v=>match av with
 | .ref t q o e=>e<=st.ep t/\(e=st.ep t->∀ k ks,a0c (st.s t) q=some k->a0l k=some ks->ks≠[]->∃ u b,a06 w (val t) q=some u/\a8f u=some b/\v= .pointer (some ⟨b,o,none⟩))
 | .bor t q lo n e=>e<=st.ep t/\(e=st.ep t->∀ sz n0 ks,a0c (st.s t) q=some (.own sz n0 ks)->lo+n<=n0->
   ∃ a0 c0,a06 w (val t) q=some (.slice a0 n0 c0)/\v= .slice (if c0=lo then a0 else a0.map (·.add (lo*sz))) n (c0 - lo))/\
   (e=st.ep t->∀ keys vals,a0c (st.s t) q=some (.mp keys vals)->a06 w (val t) q=some v)
 | _=>False
def Stab (w:World) (st:St) (val:Nat->Value) (w':World) (st':St) (val':Nat->Value) (t:Nat) (q:List Nat):Prop:=
 st.ep t<=st'.ep t/\(st'.ep t=st.ep t->∀ k',a0c (st'.s t) q=some k'->nm k'=true->∃ k,a0c (st.s t) q=some k/\
  (∀ ks',a0l k'=some ks'->ks'≠[]->∃ ks,a0l k=some ks/\ks≠[])/\(∀ sz n ks',k'= .own sz n ks'->∃ ks,k= .own sz n ks)/\(c36 k'=true->c36 k=true)/\a06 w' (val' t) q=a06 w (val t) q)
theorem b24 {w w':World} {st st':St} {val val':Nat->Value} {kl:Nat->List Nat->Bool} (h:∀ t q,kl t q=false->Stab w st val w' st' val' t q) :
  ∀ av v,QS w st val av v->(∀ t q o e,av= .ref t q o e->kl t q=false)->(∀ t q lo n e,av= .bor t q lo n e->kl t q=false)->QS w' st' val' av v:=by
 intro av v hq h1 h2
 cases av<;>simp only [QS] at hq ⊢
 case ref t q o e=>
  obtain ⟨hle,hst⟩:=h t q (h1 _ _ _ _ rfl)
  refine ⟨Nat.le_trans hq.1 hle,fun he k' ks' hn hr hne=> ?_⟩
  have he1:e=st.ep t:=by have:=hq.1; omega
  obtain ⟨k,hk,hrow,_,_,hv⟩:=hst (by omega) k' hn (c03 (by simp [hr]))
  obtain ⟨ks,hks,hne2⟩:=hrow ks' hr hne
  rw [hv]
  exact hq.2 he1 k ks hk hks hne2
 case bor t q lo n e=>
  obtain ⟨hle,hst⟩:=h t q (h2 _ _ _ _ _ rfl)
  refine ⟨Nat.le_trans hq.1 hle,fun he sz n0 ks' hn hlo=> ?_,fun he keys vals hn=> ?_⟩
  ·have he1:e=st.ep t:=by have:=hq.1; omega
   obtain ⟨k,hk,_,hown,_,hv⟩:=hst (by omega) _ hn (by simp)
   obtain ⟨ks,rfl⟩:=hown sz n0 ks' rfl
   rw [hv]
   exact hq.2.1 he1 sz n0 ks hk hlo
  ·have he1:e=st.ep t:=by have:=hq.1; omega
   obtain ⟨k,hk,_,_,hmp,hv⟩:=hst (by omega) _ hn (by simp)
   have hm:=hmp rfl
   cases k<;>simp only [c36,Bool.false_eq_true] at hm
   rw [hv]
   exact hq.2.2 he1 _ _ hk
mutual
theorem c3r {w w':World} {M M':BS} {Q Q':QR} (kl:Nat->List Nat->Bool) (hM:∀ b,M b->M' b) (hMw:∀ b,M b->w'.heap[b]? =w.heap[b]?)
  (hQ:∀ av v,Q av v->(∀ t q o e,av= .ref t q o e->kl t q=false)->(∀ t q lo n e,av= .bor t q lo n e->kl t q=false)->Q' av v) :
  ∀ (av:AV) {F F':BS} {v:Value},(∀ b,F b->F' b)->(∀ b,F b->w'.heap[b]? =w.heap[b]?)->R w M av Q F v->R w' M' (a0x kl av) Q' F' v
 | .dead,_,_,_,_,_,_=>by simp only [a0x,R]
 | .lit u,_,_,_,_,_,h=>by simp only [a0x,R] at *; exact h
 | .sl n ks,F,F',v,hF,hw,h=>by
  simp only [a0x]; exact a0t hM hMw (.sl n ks) (Q:=noQ) (fun _ _ h=>h.elim) hF hw (by simp only [R] at *; exact h)
 | .ip ks off,F,F',v,hF,hw,h=>by
  simp only [a0x]; exact a0t hM hMw (.ip ks off) (Q:=noQ) (fun _ _ h=>h.elim) hF hw (by simp only [R] at *; exact h)
 | .own sz n ks,F,F',v,hF,hw,h=>by
  simp only [a0x]; exact a0t hM hMw (.own sz n ks) (Q:=noQ) (fun _ _ h=>h.elim) hF hw (by simp only [R] at *; exact h)
 | .var ks,F,F',v,hF,hw,h=>by
  simp only [a0x]; exact a0t hM hMw (.var ks) (Q:=noQ) (fun _ _ h=>h.elim) hF hw (by simp only [R] at *; exact h)
 | .agg ks,F,F',v,hF,hw,h=>by
  simp only [a0x]; exact a0t hM hMw (.agg ks) (Q:=noQ) (fun _ _ h=>h.elim) hF hw (by simp only [R] at *; exact h)
 | .tup ks,F,F',v,hF,hw,h=>by
  simp only [a0x]; exact a0t hM hMw (.tup ks) (Q:=noQ) (fun _ _ h=>h.elim) hF hw (by simp only [R] at *; exact h)
 | .ifc T k,F,F',v,hF,hw,h=>by
  simp only [a0x]; exact a0t hM hMw (.ifc T k) (Q:=noQ) (fun _ _ h=>h.elim) hF hw (by simp only [R] at *; exact h)
 | .fn f fs cs,F,F',v,hF,hw,h=>by
  simp only [a0x,R] at *
  obtain ⟨a1,a2,hv,h1,h2⟩:=h
  exact ⟨a1,a2,hv,b25 kl hM hMw hQ fs (fun _ h=>h) (fun _ h=>h.elim) h1,b25 kl hM hMw hQ cs (fun _ h=>h) (fun _ h=>h.elim) h2⟩
 | .ref t q o e,F,F',v,hF,hw,h=>by
  simp only [a0x]
  split
  ·simp only [R]
  ·rename_i hk
   simp only [R] at *
   exact hQ _ _ h (fun t' q' o' e' he=>by injection he with h1 h2; subst h1; subst h2; simpa using hk) (fun t' q' lo' n' e' he=>by cases he)
 | .bor t q lo n e,F,F',v,hF,hw,h=>by
  simp only [a0x]
  split
  ·simp only [R]
  ·rename_i hk
   simp only [R] at *
   exact hQ _ _ h (fun t' q' o' e' he=>by cases he) (fun t' q' lo' n' e' he=>by injection he with h1 h2; subst h1; subst h2; simpa using hk)
 | .mp keys vals,F,F',v,hF,hw,h=>by
  simp only [a0x]; exact a0t hM hMw (.mp keys vals) (Q:=noQ) (fun _ _ h=>h.elim) hF hw (by simp only [R] at *; exact h)
 | .loan ks,F,F',v,hF,hw,h=>by
  simp only [a0x,R] at *
  obtain ⟨arr,hv,h1,hr⟩:=h
  exact ⟨arr,hv,h1,b25 kl hM hMw hQ ks (fun _ h=>h) (fun _ h=>h.elim) hr⟩
theorem b25 {w w':World} {M M':BS} {Q Q':QR} (kl:Nat->List Nat->Bool) (hM:∀ b,M b->M' b) (hMw:∀ b,M b->w'.heap[b]? =w.heap[b]?)
  (hQ:∀ av v,Q av v->(∀ t q o e,av= .ref t q o e->kl t q=false)->(∀ t q lo n e,av= .bor t q lo n e->kl t q=false)->Q' av v) :
  ∀ (ks:List AV) {F F':BS} {vs:List Value},(∀ b,F b->F' b)->(∀ b,F b->w'.heap[b]? =w.heap[b]?)->RL w M ks Q F vs->RL w' M' (b0c kl ks) Q' F' vs
 | [],_,_,_,_,_,h=>by simp only [b0c,RL] at *; exact h
 | k::ks,F,F',vs,hF,hw,h=>by
  simp only [b0c,RL] at *
  obtain ⟨v,vs',hv,F1,F2,h1,h2,hd,hr,hrs⟩:=h
  exact ⟨v,vs',hv,F1,F2,fun b hb=>hF b (h1 b hb),fun b hb=>hF b (h2 b hb),hd,c3r kl hM hMw hQ k (fun _ h=>h) (fun b hb=>hw b (h1 b hb)) hr,
   b25 kl hM hMw hQ ks (fun _ h=>h) (fun b hb=>hw b (h2 b hb)) hrs⟩
end
mutual
theorem a2z:∀ av:AV,a0x (fun _ _=>false) av=av
 | .fn f fs cs=>by simp only [a0x,b0j fs,b0j cs]
 | .loan ks=>by simp only [a0x,b0j ks]
 | .dead | .lit _ | .sl _ _ | .ip _ _ | .own _ _ _ | .var _ | .agg _ | .tup _ | .ifc _ _ | .mp _ _=>by simp only [a0x]
 | .ref _ _ _ _ | .bor _ _ _ _ _=>by simp [a0x]
theorem b0j:∀ ks:List AV,b0c (fun _ _=>false) ks=ks
 | []=>rfl
 | k::ks=>by simp only [b0c,a2z k,b0j ks]
end
structure GG where
 fn:Nat->Option Value
 hs:List (Nat×Value)
instance:CoeFun GG (fun _=>Nat->Option Value):=⟨GG.fn⟩
def GG.at (G:GG) (g:Nat) (v:Value):Prop:=G g=some v\/(g,v)∈G.hs
def GC (G:GG) (w:World) (g:Nat) (v:Value):Prop:=∃ cur T fz,w.heap[g]? =some (.cells cur T fz)/\cur[0]? =some v/\(G g=some v->fz=(0,0))
theorem GC.cell {G:GG} {w:World} {g:Nat} {v:Value} (h:GC G w g v):w.cell? ⟨g,0,none⟩=some v:=by
 obtain ⟨cur,T,fz,h1,h2,_⟩:=h
 simp [World.cell?,h1,h2]
theorem GC.plain {G:GG} {w:World} {g:Nat} {v:Value} (h:GC G w g v) (hg:G g=some v):∃ cur T,w.heap[g]? =some (.cells cur T (0,0))/\cur[0]? =some v:=by
 obtain ⟨cur,T,fz,h1,h2,h3⟩:=h
 exact ⟨cur,T,by rw [h1,h3 hg],h2⟩
theorem GC.keep {G:GG} {w w':World} {g:Nat} {v:Value} (h:GC G w g v) (hh:w'.heap[g]? =w.heap[g]?):GC G w' g v:=by
 obtain ⟨cur,T,fz,h1,h2,h3⟩:=h
 exact ⟨cur,T,fz,hh.trans h1,h2,h3⟩
structure Env where
 w0:World
 A:BS
 Fa:BS
 G:GG
def Mo (E:Env) (w:World) (ow:Nat->Option Nat):BS:=fun b=>ow b=none/\b < w.heap.size/\(E.A b\/E.Fa b\/E.w0.heap.size<=b)
structure Sim (E:Env) (N:Nat) (st:St) (a:Act) (w:World) (val:Nat->Value) (ow:Nat->Option Nat):Prop where
 size:a.tmps.size=N
 defers:a.defers=[]
 agree:∀ t,t < N->a.tmps.getD t undef=val t
 lt:∀ b t,ow b=some t->b < w.heap.size
 old:∀ b,b < E.w0.heap.size->¬ E.Fa b->ow b=none/\w.heap[b]? =E.w0.heap[b]?
 le:E.w0.heap.size<=w.heap.size
 os:w.os=E.w0.os
 tape:w.tape=E.w0.tape
 output:w.output=E.w0.output
 glob:∀ g v,E.G.at g v->GC E.G w g v
 globA:∀ g v,E.G.at g v->g < E.w0.heap.size/\¬ E.Fa g
 slots:∀ t,R w (Mo E w ow) (st.s t) (QS w st val) (fun b=>ow b=some t) (val t)
theorem a1y {E:Env} {N:Nat} {st st':St} {a:Act} {w w':World} {val val':Nat->Value} {ow ow':Nat->Option Nat} (h:Sim E N st a w val ow)
  (kl:Nat->List Nat->Bool) (C:Nat->Prop)
  (hs:∀ t,¬ C t->st'.s t=a0x kl (st.s t)/\val' t=val t/\(∀ b,ow b=some t->ow' b=some t/\w'.heap[b]? =w.heap[b]?))
  (hc:∀ t,C t->R w' (Mo E w' ow') (st'.s t) (QS w' st' val') (fun b=>ow' b=some t) (val' t))
  (hM:∀ b,Mo E w ow b->Mo E w' ow' b/\w'.heap[b]? =w.heap[b]?)
  (hQ:∀ t q,kl t q=false->Stab w st val w' st' val' t q) :
  ∀ t,R w' (Mo E w' ow') (st'.s t) (QS w' st' val') (fun b=>ow' b=some t) (val' t):=by
 intro t
 by_cases hct:C t
 ·exact hc t hct
 ·obtain ⟨h1,h2,h3⟩:=hs t hct
  rw [h1,h2]
  exact c3r kl (fun b hb=>(hM b hb).1) (fun b hb=>(hM b hb).2) (fun av v hq=>b24 hQ av v hq) (st.s t) (fun b hb=>(h3 b hb).1) (fun b hb=>(h3 b hb).2) (h.slots t)
theorem Stab.refl (w:World) (st:St) (val:Nat->Value) (t:Nat) (q:List Nat):Stab w st val w st val t q:=
 ⟨Nat.le_refl _,fun _ k' hk _=>⟨k',hk,fun ks' h hne=>⟨ks',h,hne⟩,fun _ _ ks' h=>⟨ks',h⟩,fun h=>h,rfl⟩⟩
open Classical
def St.set (st:St) (t:Nat) (v:AV):St:={ st with s:=fun u=>if u=t then v else st.s u }
def St.bump (st:St) (t:Nat):St:={ st with ep:=fun u=>if u=t then st.ep t+1 else st.ep u }
def St.put (st:St) (t:Nat) (v:AV):St:=⟨fun u=>if u=t then v else st.s u,fun u=>if u=t/\nm v=true then st.ep t+1 else st.ep u⟩
@[simp] theorem St.put_s (st:St) (t:Nat) (v:AV) (u:Nat):(st.put t v).s u=if u=t then v else st.s u:=rfl
theorem St.put_ep (st:St) (t:Nat) (v:AV) (u:Nat):(st.put t v).ep u=if u=t/\nm v=true then st.ep t+1 else st.ep u:=rfl
def a0u (val:Nat->Value) (t:Nat) (v:Value):Nat->Value:=fun u=>if u=t then v else val u
@[simp] theorem St.set_s (st:St) (t:Nat) (v:AV) (u:Nat):(st.set t v).s u=if u=t then v else st.s u:=rfl
@[simp] theorem St.set_ep (st:St) (t:Nat) (v:AV) (u:Nat):(st.set t v).ep u=st.ep u:=rfl
@[simp] theorem St.bump_s (st:St) (t u:Nat):(st.bump t).s u=st.s u:=rfl
@[simp] theorem St.bump_ep (st:St) (t u:Nat):(st.bump t).ep u=if u=t then st.ep t+1 else st.ep u:=rfl
section
variable {E:Env} {N:Nat} {st:St} {a:Act} {w:World} {val:Nat->Value} {ow:Nat->Option Nat}
theorem Sim.owned (h:Sim E N st a w val ow) {b t:Nat} (hb:ow b=some t):b < w.heap.size/\(E.Fa b\/E.w0.heap.size<=b):=by
 refine ⟨h.lt b t hb,?_⟩
 by_cases h1:E.Fa b
 ·exact .inl h1
 ·refine .inr ?_
  rcases Nat.lt_or_ge b E.w0.heap.size with h2 | h2
  ·have:=(h.old b h2 h1).1; rw [hb] at this; cases this
  ·exact h2
theorem Sim.ghost (h:Sim E N st a w val ow) {st':St} {val':Nat->Value} {ow':Nat->Option Nat} (C:Nat->Prop)
  (hval:∀ t,t < N->val' t=val t) (hnew:∀ b t,ow' b=some t->∃ u,ow b=some u) 
  (hs:∀ t,¬ C t->st'.s t=st.s t/\val' t=val t/\(∀ b,ow b=some t->ow' b=some t))
  (hQ:∀ t q,Stab w st val w st' val' t q)
  (hc:(∀ av v,QS w st val av v->QS w st' val' av v)->(∀ b,Mo E w ow b->Mo E w ow' b)->∀ t,C t->R w (Mo E w ow') (st'.s t) (QS w st' val') (fun b=>ow' b=some t) (val' t)):Sim E N st' a w val' ow':=by
 have hno:∀ b,ow b=none->ow' b=none:=fun b hb=>by
  cases h1:ow' b with
  | none=>rfl
  | some t=>obtain ⟨u,hu⟩:=hnew b t h1; rw [hb] at hu; cases hu
 have hq:∀ av v,QS w st val av v->QS w st' val' av v:=fun av v hq=>b24 (kl:=fun _ _=>false) (fun t q _=>hQ t q) av v hq (fun _ _ _ _ _=>rfl) (fun _ _ _ _ _ _=>rfl)
 have hM:∀ b,Mo E w ow b->Mo E w ow' b:=fun b hb=>⟨hno b hb.1,hb.2⟩
 exact { size:=h.size,defers:=h.defers,agree:=fun t ht=>(h.agree t ht).trans (hval t ht).symm,lt:=fun b t hb=>by obtain ⟨u,hu⟩:=hnew b t hb; exact h.lt b u hu,
         old:=fun b hb hF=>⟨hno b (h.old b hb hF).1,(h.old b hb hF).2⟩,le:=h.le,os:=h.os,tape:=h.tape,output:=h.output,glob:=h.glob,globA:=h.globA,
         slots:=a1y h (fun _ _=>false) C (fun t ht=>by rw [a2z]; exact ⟨(hs t ht).1,(hs t ht).2.1,fun b hb=>⟨(hs t ht).2.2 b hb,rfl⟩⟩) (hc hq hM) (fun b hb=>⟨hM b hb,rfl⟩) (fun t q _=>hQ t q) }
theorem b8b (v:AV):nm (frz v)=false:=by cases v<;>simp [frz]
theorem Stab.norow {w w':World} {st st':St} {val val':Nat->Value} {t:Nat} (hep:st.ep t<=st'.ep t) (hr:nm (st'.s t)=false) (q:List Nat):Stab w st val w' st' val' t q:=by
 refine ⟨hep,fun _ k' hk hrow=> ?_⟩
 cases q with
 | nil=>simp only [a0c,Option.some.injEq] at hk; subst hk; rw [hr] at hrow; simp at hrow
 | cons i q=>simp only [a0c,c39 hr] at hk; cases hk
theorem Stab.bumped {w w':World} {st st':St} {val val':Nat->Value} {t:Nat} (hep:st.ep t < st'.ep t) (q:List Nat):Stab w st val w' st' val' t q:=
 ⟨Nat.le_of_lt hep,fun he=>by omega⟩
theorem Stab.same {w w':World} {st st':St} {val val':Nat->Value} {t:Nat} {q:List Nat} (hep:st'.ep t=st.ep t) (hs:st'.s t=st.s t) (hv:a06 w' (val' t) q=a06 w (val t) q):Stab w st val w' st' val' t q:=
 ⟨by omega,fun _ k' hk _=>⟨k',by rw [<-hs]; exact hk,fun ks' h hne=>⟨ks',h,hne⟩,fun _ _ ks' h=>⟨ks',h⟩,fun h=>h,hv⟩⟩
theorem Stab.put {w w':World} {st st':St} {val val':Nat->Value} {t:Nat} {v:AV} (hs:st'.s t=v) (he:st'.ep t=if nm v=true then st.ep t+1 else st.ep t) (q:List Nat):Stab w st val w' st' val' t q:=by
 cases hr:nm v with
 | false=>exact Stab.norow (by rw [he,hr]; simp) (by rw [hs,hr]) q
 | true=>exact Stab.bumped (by rw [he,hr]; simp) q
theorem Sim.drop (h:Sim E N st a w val ow) (t:Nat):Sim E N (st.set t .dead) a w val ow:=
 h.ghost (fun u=>u=t) (fun _ _=>rfl) (fun b u hb=>⟨u,hb⟩) (fun u hu=>by simp [hu]) (fun u q=>by
  by_cases hu:u=t
  ·subst hu; exact Stab.norow (t:=u) (st:=st) (st':=st.set u .dead) (Nat.le_refl (st.ep u)) (by simp [a0l]) q
  ·exact Stab.same rfl (by simp [hu]) rfl)
  (fun _ _ u hu=>by subst hu; simp [R])
theorem Sim.freeze (h:Sim E N st a w val ow) (t:Nat):Sim E N (st.set t (frz (st.s t))) a w val (fun b=>if ow b=some t then none else ow b):=
 h.ghost (fun u=>u=t) (fun _ _=>rfl) (fun b u hb=>by
   by_cases h1:ow b=some t
   ·simp [h1] at hb
   ·simp [h1] at hb; exact ⟨u,hb⟩) (fun u hu=>by
   refine ⟨by simp [hu],rfl,fun b hb=> ?_⟩
   simp [hb,hu]) (fun u q=>by
   by_cases hu:u=t
   ·subst hu; exact Stab.norow (t:=u) (st:=st) (st':=st.set u (frz (st.s u))) (Nat.le_refl (st.ep u)) (by simp [b8b]) q
   ·exact Stab.same rfl (by simp [hu]) rfl)
  (fun hq hM u hu=>by
   subst hu
   have h1:=b6u hM (st.s u) (fun b hb=>by
    have:=h.owned hb
    exact ⟨by simp [hb],this.1,.inr this.2⟩) (h.slots u)
   simp only [St.set_s,if_true]
   exact a0t (fun _ h=>h) (fun _ _=>rfl) _ hq (fun _ h=>h.elim) (fun _ h=>h.elim) h1)
theorem Sim.lay (h:Sim E N st a w val ow) {j:Nat} (hj:N<=j) {av:AV} {v:Value} {Q:QR} (hQ:∀ a u,Q a u->QS w st val a u) (hr:R w (Mo E w ow) av Q noB v) (hrow:nm av=false) :
  Sim E N (st.set j av) a w (a0u val j v) ow:=
 h.ghost (fun u=>u=j) (fun t ht=>by simp [a0u]; omega) (fun b u hb=>⟨u,hb⟩) (fun u hu=>by simp [hu,a0u]) (fun u q=>by
  by_cases hu:u=j
  ·subst hu; exact Stab.norow (t:=u) (st:=st) (st':=st.set u av) (Nat.le_refl (st.ep u)) (by simp [hrow]) q
  ·exact Stab.same rfl (by simp [hu]) (by simp [a0u,hu]))
  (fun hq hM u hu=>by
   subst hu
   simp only [St.set_s,if_true,a0u]
   exact a0t hM (fun _ _=>rfl) av (fun a u h=>hq a u (hQ a u h)) (fun _ h=>h.elim) (fun _ h=>h.elim) hr)
theorem Sim.pass (h:Sim E N st a w val ow) {t j:Nat} (htj:t≠j) {av:AV} {v:Value} (hv:j < N->v=val j) 
  (hr:∀ Q,(∀ a u,QS w st val a u->Q a u)->R w (Mo E w ow) av Q (fun b=>ow b=some t) v) :
  Sim E N ((st.set t .dead).put j av) a w (a0u val j v) (fun b=>if ow b=some t then some j else if ow b=some j then some t else ow b):=
 h.ghost (fun u=>u=t\/u=j) (fun u hu=>by
   simp only [a0u]; split
   ·rename_i he; subst he; exact hv hu
   ·rfl) (fun b u hb=>by
   by_cases h1:ow b=some t
   ·exact ⟨t,h1⟩
   ·by_cases h2:ow b=some j
    ·exact ⟨j,h2⟩
    ·simp [h1,h2] at hb; exact ⟨u,hb⟩)
  (fun u hu=>by
   have h1:u≠t:=fun he=>hu (.inl he)
   have h2:u≠j:=fun he=>hu (.inr he)
   refine ⟨by simp [h1,h2],by simp [a0u,h2],fun b hb=> ?_⟩
   have e1:ow b≠some t:=by rw [hb]; simpa using h1
   have e2:ow b≠some j:=by rw [hb]; simpa using h2
   simp [hb,h1,h2])
  (fun u q=>by
   by_cases hu:u=j
   ·subst hu; exact Stab.put (v:=av) (by simp) (by simp [St.put_ep]) q
   ·by_cases hu2:u=t
    ·subst hu2; exact Stab.norow (t:=u) (st:=st) (st':=(st.set u .dead).put j av) (by simp [St.put_ep,hu]) (by simp [hu,a0l]) q
    ·exact Stab.same (by simp [St.put_ep,hu]) (by simp [hu,hu2]) (by simp [a0u,hu]))
  (fun hq hM u hu=>by
   by_cases hj:u=j
   ·subst hj
    simp only [St.put_s,if_true,a0u]
    refine a0t hM (fun _ _=>rfl) av (fun _ _ h=>h) (fun b hb=> ?_) (fun _ _=>rfl) (hr _ hq)
    simp [hb]
   ·have:u=t:=hu.resolve_right hj
    subst this
    simp [hj,R])
end
open Classical
def Like (k' k:AV):Prop:=(∀ ks',a0l k'=some ks'->∃ ks,a0l k=some ks/\ks.length=ks'.length)/\(∀ sz n ks',k'= .own sz n ks'->∃ ks,k= .own sz n ks)/\(c36 k'=true->c36 k=true)
theorem Like.refl (k:AV):Like k k:=⟨fun ks h=>⟨ks,h,rfl⟩,fun _ _ ks h=>⟨ks,h⟩,fun h=>h⟩
theorem a4a (k:AV) (ks ks':List AV) (h:a0l k=some ks) (hl:ks'.length=ks.length):Like (a3l k ks') k/\a0l (a3l k ks')=some ks':=by
 cases k<;>simp only [a0l,reduceCtorEq,Option.some.injEq] at h
 case own sz n ks0=>
  subst h
  exact ⟨⟨fun ks1 h1=>by simp only [a3l,a0l,Option.some.injEq] at h1; subst h1; exact ⟨_,rfl,hl.symm⟩,fun sz' n' ks1 h1=>by simp only [a3l,AV.own.injEq] at h1; obtain ⟨rfl,rfl,_⟩:=h1; exact ⟨_,rfl⟩,fun h=>by simp [a3l,c36] at h⟩,rfl⟩
 case var ks0=>
  subst h
  exact ⟨⟨fun ks1 h1=>by simp only [a3l,a0l,Option.some.injEq] at h1; subst h1; exact ⟨_,rfl,hl.symm⟩,fun sz' n' ks1 h1=>by simp [a3l] at h1,fun h=>by simp [a3l,c36] at h⟩,rfl⟩
theorem a2t:∀ (q:List Nat) {av k k0:AV} {q':List Nat} {k':AV},a0c av q=some k->nm k0=false->a0c (a0h av q k0) q'=some k'->nm k'=true->
  ∃ k1,a0c av q'=some k1/\Like k' k1
 | [],av,k,k0,q',k',_,h0,hn,hr=>by
  simp only [a0h] at hn
  cases q' with
  | nil=>simp only [a0c,Option.some.injEq] at hn; subst hn; rw [h0] at hr; simp at hr
  | cons i q'=>simp only [a0c,c39 h0] at hn; cases hn
 | i::q,av,k,k0,q',k',hk,h0,hn,hr=>by
  simp only [a0c] at hk
  cases hrow:a0l av with
  | none=>simp [hrow] at hk
  | some ks=>
   simp only [hrow] at hk
   cases hi:ks[i]? with
   | none=>simp [hi] at hk
   | some ki=>
    simp only [hi] at hk
    simp only [a0h,hrow,hi] at hn
    obtain ⟨hlike,hrow'⟩:=a4a av ks (ks.set i (a0h ki q k0)) hrow (by simp)
    cases q' with
    | nil=>
     simp only [a0c,Option.some.injEq] at hn
     subst hn
     exact ⟨av,rfl,hlike⟩
    | cons j q'=>
     simp only [a0c,hrow'] at hn
     simp only [a0c,hrow]
     by_cases hij:j=i
     ·subst hij
      have hlt:j < ks.length:=(List.getElem?_eq_some_iff.1 hi).1
      simp only [List.getElem?_set,hlt,if_true] at hn
      simp only [hi]
      exact a2t q hk h0 hn hr
     ·rw [List.getElem?_set_ne (by omega)] at hn
      cases hj:ks[j]? with
      | none=>simp [hj] at hn
      | some kj=>simp only [hj] at hn ⊢; exact ⟨k',hn,Like.refl k'⟩
theorem Stab.like {w w':World} {st st':St} {val val':Nat->Value} {t:Nat} {q:List Nat} (hep:st.ep t<=st'.ep t)
  (h:∀ k',a0c (st'.s t) q=some k'->nm k'=true->∃ k,a0c (st.s t) q=some k/\Like k' k) (hv:a06 w' (val' t) q=a06 w (val t) q):Stab w st val w' st' val' t q:=by
 refine ⟨hep,fun _ k' hk hr=> ?_⟩
 obtain ⟨k,h1,h2,h3⟩:=h k' hk hr
 refine ⟨k,h1,fun ks' hks hne=> ?_,h3.1,h3.2,hv⟩
 obtain ⟨ks,g1,g2⟩:=h2 ks' hks
 exact ⟨ks,g1,fun he=>hne (by rw [he] at g2; exact List.eq_nil_of_length_eq_zero g2.symm)⟩
mutual
def a0j:AV->Bool
 | .own _ _ _=>false
 | .var _=>false
 | .agg ks=>a0k ks
 | .tup ks=>a0k ks
 | .ifc _ k=>a0j k
 | .mp _ _=>false
 | _=>true
def a0k:List AV->Bool
 | []=>true
 | k::ks=>a0j k&&a0k ks
end
mutual
theorem a1d {w:World} {M:BS}:∀ (av:AV) {Q:QR} {F:BS} {v:Value},a0j av=true->R w M av Q F v->R w M av Q noB v
 | .dead,_,_,_,_,h=>by simp only [R]
 | .lit u,_,_,_,_,h=>by simp only [R] at *; exact h
 | .sl n ks,_,_,_,_,h=>by simp only [R] at *; exact h
 | .ip ks off,_,_,_,_,h=>by simp only [R] at *; exact h
 | .own sz n ks,_,_,_,hn,h=>by simp [a0j] at hn
 | .var ks,_,_,_,hn,h=>by simp [a0j] at hn
 | .agg ks,_,_,_,hn,h=>by
  simp only [a0j,R] at *
  obtain ⟨arr,hv,h1,hr⟩:=h
  exact ⟨arr,hv,h1,a8q ks hn hr⟩
 | .tup ks,_,_,_,hn,h=>by
  simp only [a0j,R] at *
  obtain ⟨arr,hv,hr⟩:=h
  exact ⟨arr,hv,a8q ks hn hr⟩
 | .ifc T k,_,_,_,hn,h=>by
  simp only [a0j,R] at *
  obtain ⟨u,hv,hr⟩:=h
  exact ⟨u,hv,a1d k hn hr⟩
 | .fn f fs cs,_,_,_,_,h=>by simp only [R] at *; exact h
 | .ref t q o e,_,_,_,_,h=>by simp only [R] at *; exact h
 | .bor t q lo n e,_,_,_,_,h=>by simp only [R] at *; exact h
 | .mp keys vals,_,_,_,hn,h=>by simp [a0j] at hn
 | .loan ks,_,_,_,_,h=>by simp only [R] at *; exact h
theorem a8q {w:World} {M:BS}:∀ (ks:List AV) {Q:QR} {F:BS} {vs:List Value},a0k ks=true->RL w M ks Q F vs->RL w M ks Q noB vs
 | [],_,_,_,_,h=>by simp only [RL] at *; exact h
 | k::ks,_,_,_,hn,h=>by
  simp only [a0k,Bool.and_eq_true,RL] at *
  obtain ⟨v,vs',hv,F1,F2,h1,h2,hd,hr,hrs⟩:=h
  exact ⟨v,vs',hv,noB,noB,fun _ h=>h,fun _ h=>h,fun _ h _=>h,a1d k hn.1 hr,a8q ks hn.2 hrs⟩
end
section
variable {E:Env} {N:Nat} {st:St} {a:Act} {w:World} {val:Nat->Value} {ow:Nat->Option Nat}
theorem Sim.freezeNodeX (h:Sim E N st a w val ow) {t:Nat} {q:List Nat} {k:AV} (hk:a0c (st.s t) q=some k) :
  ∃ ow',Sim E N (st.set t (a0h (st.s t) q (frz k))) a w val ow'/\∀ b s,ow' b=some s->ow b=some s:=by
 obtain ⟨u,hu,Fk,G,f1,f2,f3,hr,fill⟩:=a32 q (h.slots t) hk
 refine ⟨fun b=>if Fk b then none else ow b,h.ghost (fun u=>u=t) (fun _ _=>rfl) (fun b u hb=> ?_) (fun u hu=>⟨by simp [hu],rfl,fun b hb=> ?_⟩) (fun s q'=> ?_) (fun hq hM s hs=> ?_),fun b s hb=> ?_⟩
 ·by_cases h1:Fk b
  ·simp [h1] at hb
  ·simp [h1] at hb; exact ⟨u,hb⟩
 ·have:¬ Fk b:=fun hf=>by have:=f1 b hf; rw [hb] at this; injection this with e; exact hu e
  simp [this,hb]
 ·by_cases hs:s=t
  ·subst hs
   refine Stab.like (Nat.le_refl _) (fun k' h1 h2=> ?_) rfl
   simp only [St.set_s,if_true] at h1
   exact a2t q hk (b8b k) h1 h2
  ·exact Stab.same rfl (by simp [hs]) rfl
 ·subst hs
  simp only [St.set_s,if_true]
  have h1:=b6u hM k (fun b hb=>by
   have:=h.owned (f1 b hb)
   exact ⟨by simp [hb],this.1,.inr this.2⟩) hr
  refine a1l ?_ (fill _ (frz k) noB (QS w _ val) hM (fun _ h=>h.elim) ?_)
  ·rintro x (hx | hx)
   ·exact hx.elim
   ·have:¬ Fk x:=fun hf=>f3 x hf hx
    simp [this,f2 x hx]
  ·by_cases hq0:q=[]
   ·simp only [hq0,if_true] at h1 ⊢
    exact a0t (fun _ h=>h) (fun _ _=>rfl) _ (fun a u h=>by subst hq0; exact hq a u h) (fun _ h=>h.elim) (fun _ h=>h.elim) h1
   ·simpa only [hq0,if_false] using h1
 ·by_cases h1:Fk b
  ·simp [h1] at hb
  ·simpa [h1] using hb
theorem Sim.freezeNode (h:Sim E N st a w val ow) {t:Nat} {q:List Nat} {k:AV} (hk:a0c (st.s t) q=some k) :
  ∃ ow',Sim E N (st.set t (a0h (st.s t) q (frz k))) a w val ow':=let ⟨ow',h1,_⟩:=h.freezeNodeX hk; ⟨ow',h1⟩
theorem Sim.take (h:Sim E N st a w val ow) {t j:Nat} {q:List Nat} {k:AV} (hk:a0c (st.s t) q=some k) (hj:N<=j) (htj:t≠j) :
  ∃ u ow',a06 w (val t) q=some u/\Sim E N ((st.set t (a0h (st.s t) q .dead)).put j k) a w (a0u val j u) ow':=by
 obtain ⟨u,hu,Fk,G,f1,f2,f3,hr,fill⟩:=a32 q (h.slots t) hk
 refine ⟨u,fun b=>if Fk b then some j else if ow b=some j then some t else ow b,hu,h.ghost (fun u=>u=t\/u=j) (fun s hs=>by simp [a0u]; omega) (fun b s hb=> ?_) (fun s hs=> ?_) (fun s q'=> ?_) (fun hq hM s hs=> ?_)⟩
 ·by_cases h1:Fk b
  ·exact ⟨t,f1 b h1⟩
  ·by_cases h2:ow b=some j
   ·exact ⟨j,h2⟩
   ·simp [h1,h2] at hb; exact ⟨s,hb⟩
 ·have h1:s≠t:=fun he=>hs (.inl he)
  have h2:s≠j:=fun he=>hs (.inr he)
  refine ⟨by simp [h1,h2],by simp [a0u,h2],fun b hb=> ?_⟩
  have e1:¬ Fk b:=fun hf=>by have:=f1 b hf; rw [hb] at this; injection this with e; exact h1 e
  have e2:ow b≠some j:=by rw [hb]; simpa using h2
  simp [e1,hb,h2]
 ·by_cases hs:s=j
  ·subst hs; exact Stab.put (v:=k) (by simp) (by simp [St.put_ep]) q'
  ·by_cases hst:s=t
   ·subst hst
    refine Stab.like (by simp [St.put_ep,hs]) (fun k' h1 h2=> ?_) (by simp [a0u,hs])
    simp only [St.put_s,St.set_s,hs,if_false,if_true] at h1
    exact a2t q hk (by simp [a0l]) h1 h2
   ·exact Stab.same (by simp [St.put_ep,hs]) (by simp [hs,hst]) (by simp [a0u,hs])
 ·by_cases hsj:s=j
  ·subst hsj
   simp only [St.put_s,if_true,a0u]
   by_cases hq0:q=[]
   ·simp only [hq0,if_true] at hr
    exact a0t hM (fun _ _=>rfl) k hq (fun b hb=>by simp [hb]) (fun _ _=>rfl) hr
   ·simp only [hq0,if_false] at hr
    exact a0t hM (fun _ _=>rfl) k (fun _ _ h=>h.elim) (fun b hb=>by simp [hb]) (fun _ _=>rfl) hr
  ·have:s=t:=hs.resolve_right hsj
   subst this
   simp only [St.put_s,St.set_s,hsj,if_false,if_true,a0u]
   refine a1l ?_ (fill _ .dead noB (QS w _ (a0u val j u)) hM (fun _ h=>h.elim) (by simp [R]))
   rintro x (hx | hx)
   ·exact hx.elim
   ·have e1:¬ Fk x:=fun hf=>f3 x hf hx
    have e2:ow x≠some j:=by rw [f2 x hx]; simpa using htj
    simp [e1,f2 x hx,htj]
theorem Sim.merge (h:Sim E N st a w val ow) {t j:Nat} (htj:t≠j) (hj:N<=j) {av:AV} {v:Value}
  (hr:∀ F:BS,(∀ b,ow b=some t->F b)->(∀ b,ow b=some j->F b)->R w (Mo E w ow) av noQ F v) :
  Sim E N ((st.set t .dead).put j av) a w (a0u val j v) (fun b=>if ow b=some t then some j else ow b):=
 h.ghost (fun u=>u=t\/u=j) (fun u hu=>by simp [a0u]; omega) (fun b u hb=>by
   by_cases h1:ow b=some t
   ·exact ⟨t,h1⟩
   ·simp [h1] at hb; exact ⟨u,hb⟩)
  (fun u hu=>by
   have h1:u≠t:=fun he=>hu (.inl he)
   have h2:u≠j:=fun he=>hu (.inr he)
   refine ⟨by simp [h1,h2],by simp [a0u,h2],fun b hb=> ?_⟩
   have e1:ow b≠some t:=by rw [hb]; simpa using h1
   simp [hb,h1])
  (fun u q=>by
   by_cases hu:u=j
   ·subst hu; exact Stab.put (v:=av) (by simp) (by simp [St.put_ep]) q
   ·by_cases hu2:u=t
    ·subst hu2; exact Stab.norow (t:=u) (st:=st) (st':=(st.set u .dead).put j av) (by simp [St.put_ep,hu]) (by simp [hu,a0l]) q
    ·exact Stab.same (by simp [St.put_ep,hu]) (by simp [hu,hu2]) (by simp [a0u,hu]))
  (fun hq hM u hu=>by
   by_cases hju:u=j
   ·subst hju
    simp only [St.put_s,if_true,a0u]
    exact a0t hM (fun _ _=>rfl) av (fun _ _ h=>h.elim) (fun _ h=>h) (fun _ _=>rfl) (hr _ (fun b hb=>by simp [hb]) (fun b hb=>by by_cases h1:ow b=some t<;>simp [h1,hb]))
   ·have:u=t:=hu.resolve_right hju
    subst this
    simp [hju,R])
theorem Sim.putDead (h:Sim E N st a w val ow) {d:Nat} (hd:d < N) (v:Value):Sim E N (st.set d .dead) (a.put (some d) v) w (a0u val d v) ow:=
 { size:=by simp [Act.put,h.size],defers:=by simp [Act.put,h.defers],lt:=h.lt,old:=h.old,le:=h.le,os:=h.os,tape:=h.tape,output:=h.output,glob:=h.glob,globA:=h.globA,
   agree:=fun t ht=>by
    simp only [Act.put,a0u]
    by_cases he:t=d
    ·subst he; simp [h.size,hd]
    ·simp only [he,if_false]
     rw [<-h.agree t ht]
     simp [Array.getD_eq_getD_getElem?,Ne.symm he]
   slots:=a1y h (fun _ _=>false) (fun u=>u=d) (fun t ht=>by
     have ht':t≠d:=ht
     rw [a2z]; exact ⟨by simp [ht'],by simp [a0u,ht'],fun b hb=>⟨hb,rfl⟩⟩) (fun t ht=>by
     have ht':t=d:=ht
     subst ht'; simp [R]) (fun b hb=>⟨hb,rfl⟩) (fun t q _=>by
     by_cases he:t=d
     ·subst he; exact Stab.norow (t:=t) (st:=st) (st':=st.set t .dead) (Nat.le_refl (st.ep t)) (by simp [a0l]) q
     ·exact Stab.same rfl (by simp [he]) (by simp [a0u,he])) }
theorem Sim.layd (h:Sim E N st a w val ow) {j:Nat} {av:AV} {v:Value} (hv:j < N->v=val j) {Q:QR} (hQ:∀ a u,Q a u->QS w st val a u) (hr:R w (Mo E w ow) av Q noB v) (hrow:nm av=false) :
  Sim E N (st.set j av) a w (a0u val j v) ow:=
 h.ghost (fun u=>u=j) (fun t ht=>by
   simp only [a0u]; split
   ·rename_i he; subst he; exact hv ht
   ·rfl) (fun b u hb=>⟨u,hb⟩) (fun u hu=>by simp [hu,a0u]) (fun u q=>by
  by_cases hu:u=j
  ·subst hu; exact Stab.norow (t:=u) (st:=st) (st':=st.set u av) (Nat.le_refl (st.ep u)) (by simp [hrow]) q
  ·exact Stab.same rfl (by simp [hu]) (by simp [a0u,hu]))
  (fun hq hM u hu=>by
   subst hu
   simp only [St.set_s,if_true,a0u]
   exact a0t hM (fun _ _=>rfl) av (fun a u h=>hq a u (hQ a u h)) (fun _ h=>h.elim) (fun _ h=>h.elim) hr)
end
open Classical
theorem b9s {w:World} {M:BS}:∀ {ks:List AV} {i j:Nat} {ki kj:AV} {Q:QR} {F:BS} {vs:List Value},RL w M ks Q F vs->i≠j->ks[i]? =some ki->ks[j]? =some kj->
  ∃ ui uj,vs[i]? =some ui/\vs[j]? =some uj/\∃ Fi Fj:BS,(∀ b,Fi b->F b)/\(∀ b,Fj b->F b)/\(∀ b,Fi b->Fj b->False)/\R w M ki Q Fi ui/\R w M kj Q Fj uj
 | [],i,j,ki,kj,Q,F,vs,h,_,hi,_=>by simp at hi
 | k::ks,0,0,ki,kj,Q,F,vs,h,hne,_,_=>absurd rfl hne
 | k::ks,0,j+1,ki,kj,Q,F,vs,h,_,hi,hj=>by
  simp only [RL] at h
  obtain ⟨v,vs',rfl,F1,F2,h1,h2,hd,hr,hrs⟩:=h
  simp only [List.getElem?_cons_zero,Option.some.injEq,List.getElem?_cons_succ] at hi hj
  subst hi
  obtain ⟨u,hu,E,G,e1,_,_,er,_⟩:=a5g hrs hj
  exact ⟨v,u,rfl,by simpa using hu,F1,E,h1,fun b hb=>h2 b (e1 b hb),fun b hb hb2=>hd b hb (e1 b hb2),hr,er⟩
 | k::ks,i+1,0,ki,kj,Q,F,vs,h,_,hi,hj=>by
  simp only [RL] at h
  obtain ⟨v,vs',rfl,F1,F2,h1,h2,hd,hr,hrs⟩:=h
  simp only [List.getElem?_cons_zero,Option.some.injEq,List.getElem?_cons_succ] at hi hj
  subst hj
  obtain ⟨u,hu,E,G,e1,_,_,er,_⟩:=a5g hrs hi
  exact ⟨u,v,by simpa using hu,rfl,E,F1,fun b hb=>h2 b (e1 b hb),h1,fun b hb hb2=>hd b hb2 (e1 b hb),er,hr⟩
 | k::ks,i+1,j+1,ki,kj,Q,F,vs,h,hne,hi,hj=>by
  simp only [RL] at h
  obtain ⟨v,vs',rfl,F1,F2,h1,h2,hd,hr,hrs⟩:=h
  simp only [List.getElem?_cons_succ] at hi hj
  obtain ⟨ui,uj,g1,g2,Fi,Fj,f1,f2,f3,r1,r2⟩:=b9s hrs (by omega) hi hj
  exact ⟨ui,uj,by simpa using g1,by simpa using g2,Fi,Fj,fun b hb=>h2 b (f1 b hb),fun b hb=>h2 b (f2 b hb),f3,r1,r2⟩
theorem a15 {w w':World} {M:BS}:∀ (q:List Nat) {av:AV} {Q:QR} {F:BS} {v:Value} {k:AV},R w M av Q F v->a0c av q=some k->(∀ b,F b->w'.heap[b]? =w.heap[b]?)->a06 w' v q=a06 w v q
 | [],av,Q,F,v,k,_,_,_=>rfl
 | i::q,av,Q,F,v,k,h,hk,hw=>by
  simp only [a0c] at hk
  cases h0:a0l av with
  | none=>simp [h0] at hk
  | some ks0=>
   simp only [h0] at hk
   cases hi:ks0[i]? with
   | none=>simp [hi] at hk
   | some k0=>
    simp only [hi] at hk
    have hne0:ks0≠[]:=by intro he; simp [he] at hi
    obtain ⟨b0,cur0,T0,fz0,g1,g2,g3,g4,g5,_,g6,_⟩:=b6c h h0 hne0
    obtain ⟨u0,hu,F1,G1,f1,_,_,f4,_⟩:=a5g g6 hi
    have hc:w'.cell? ⟨b0,i,none⟩=w.cell? ⟨b0,i,none⟩:=a27 (hw b0 g2)
    simp only [a06,g1,hc,a0z g3,a1i hu]
    exact a15 q f4 hk (fun b hb=>hw b (f1 b hb).1)
theorem b1r {w w':World} {M:BS} {o m:Nat} {b:Nat} (hw:∀ x,x≠b->w'.heap[x]? =w.heap[x]?) (hc:∀ i,¬ (o<=i/\i < o+m)->w'.cell? ⟨b,i,none⟩=w.cell? ⟨b,i,none⟩) :
  ∀ (q:List Nat) {av:AV} {Q:QR} {F:BS} {v:Value} {ks:List AV} {q':List Nat} {k':AV},R w M av Q F v->a2u av q=some ks->ks≠[]->blk w v q=some b->a0c av q'=some k'->
   (∀ i r,q'=q++i::r->¬ (o<=i/\i < o+m))->a06 w' v q'=a06 w v q'
 | q,av,Q,F,v,ks,[],k',_,_,_,_,_,_=>rfl
 | [],av,Q,F,v,ks,j::r,k',h,hr,hne,hb,hk,hn=>by
  simp only [a2u] at hr
  simp only [a0c,hr] at hk
  cases hj:ks[j]? with
  | none=>simp [hj] at hk
  | some kj=>
   simp only [hj] at hk
   obtain ⟨b0,cur0,T0,fz0,g1,g2,g3,g4,g5,_,g6,_⟩:=b6c h hr hne
   simp only [blk] at hb
   rw [g1] at hb; injection hb with hb; subst hb
   obtain ⟨u0,hu,F1,G1,f1,_,_,f4,_⟩:=a5g g6 hj
   simp only [a06,g1,hc j (hn j r rfl),a0z g3,a1i hu]
   exact a15 r f4 hk (fun x hx=>hw x (f1 x hx).2)
 | i::q,av,Q,F,v,ks,j::r,k',h,hr,hne,hb,hk,hn=>by
  simp only [a2u] at hr
  cases h0:a0l av with
  | none=>simp [h0] at hr
  | some ks0=>
   simp only [h0] at hr
   cases hi:ks0[i]? with
   | none=>simp [hi] at hr
   | some ki=>
    simp only [hi] at hr
    simp only [a0c,h0] at hk
    cases hj:ks0[j]? with
    | none=>simp [hj] at hk
    | some kj=>
     simp only [hj] at hk
     have hne0:ks0≠[]:=by intro he; simp [he] at hi
     obtain ⟨b0,cur0,T0,fz0,g1,g2,g3,g4,g5,_,g6,_⟩:=b6c h h0 hne0
     obtain ⟨u0,hu,F1,G1,f1,_,_,f4,_⟩:=a5g g6 hi
     obtain ⟨b1,_,_,_,e1,e2,_⟩:=b2f q f4 hr hne
     have hb':blk w u0 q=some b:=by
      simp only [blk,g1,a0z g3,a1i hu] at hb
      exact hb
     rw [e1] at hb'; injection hb' with hb'; subst hb'
     have hb0:b0≠b1:=fun he=>(f1 b1 e2).2 he.symm
     have hcell:w'.cell? ⟨b0,j,none⟩=w.cell? ⟨b0,j,none⟩:=a27 (hw b0 hb0)
     by_cases hij:j=i
     ·subst hij
      rw [hi] at hj; injection hj with hj; subst hj
      simp only [a06,g1,hcell,a0z g3,a1i hu]
      exact b1r hw hc q f4 hr hne e1 hk (fun i' r' he=>hn i' r' (by rw [he]; rfl))
     ·obtain ⟨ui,uj,d1,d2,Fi,Fj,d3,d4,d5,ri,rj⟩:=b9s g6 (Ne.symm hij) hi hj
      have hui:ui=u0:=by rw [hu] at d1; injection d1 with d1; exact d1.symm
      subst hui
      obtain ⟨b2,_,_,_,c1,c2,_⟩:=b2f q ri hr hne
      rw [e1] at c1; injection c1 with c1; subst c1
      simp only [a06,g1,hcell,a0z g3,a1i d2]
      exact a15 r rj hk (fun x hx=>hw x (fun he=>d5 b1 c2 (he ▸ hx)))
def a0o {α:Type} (l:List α) (o:Nat) (xs:List α):List α:=l.take o++xs++l.drop (o+xs.length)
theorem a3k {α:Type} (l:List α) (o:Nat) (xs:List α) (h:o+xs.length<=l.length):(a0o l o xs).length=l.length:=by simp [a0o]; omega
theorem a30 {α:Type} (l:List α) (o:Nat) (xs:List α) (h:o+xs.length<=l.length) (i:Nat) (hi:¬ (o<=i/\i < o+xs.length)):(a0o l o xs)[i]? =l[i]? :=by
 unfold a0o
 rw [List.append_assoc]
 by_cases h1:i < o
 ·rw [List.getElem?_append_left (by simp; omega),List.getElem?_take_of_lt h1]
 ·rw [List.getElem?_append_right (by simp; omega),List.getElem?_append_right (by simp; omega)]
  simp only [List.length_take,List.getElem?_drop]
  congr 1
  omega
theorem a6q {α:Type} (l:List α) (o:Nat) (xs:List α) (h:o+xs.length<=l.length) (i:Nat) (hi:o<=i/\i < o+xs.length):(a0o l o xs)[i]? =xs[i - o]? :=by
 unfold a0o
 rw [List.append_assoc,List.getElem?_append_right (by simp; omega),List.getElem?_append_left (by simp; omega)]
 simp only [List.length_take]
 congr 1
 omega
theorem c05 {k:AV} (h:a0j k=true):a0l k=none:=by cases k<;>simp_all [a0j,a0l]
theorem a5j {k:AV} (h:a0j k=true):nm k=false:=by cases k<;>simp_all [a0j]
theorem a9p:∀ {ks:List AV} {i:Nat} {k:AV},a0k ks=true->ks[i]? =some k->a0j k=true
 | [],i,k,_,h=>by simp at h
 | k0::ks,0,k,hn,h=>by simp only [a0k,Bool.and_eq_true,List.getElem?_cons_zero,Option.some.injEq] at *; subst h; exact hn.1
 | k0::ks,i+1,k,hn,h=>by simp only [a0k,Bool.and_eq_true,List.getElem?_cons_succ] at *; exact a9p hn.2 h
theorem a9y {k:AV} (h:a0l k=none) {r:List Nat} {k':AV} (hk:a0c k r=some k'):r=[]/\k'=k:=by
 cases r with
 | nil=>simp only [a0c,Option.some.injEq] at hk; exact ⟨rfl,hk.symm⟩
 | cons i r=>simp only [a0c,h] at hk; cases hk
theorem a6i:∀ (q:List Nat) {av:AV} {ks cs:List AV} {o:Nat} {q':List Nat} {k':AV},a2u av q=some ks->o+cs.length<=ks.length->a0c (setRow av q (a0o ks o cs)) q'=some k'->nm k'=true->
  (a0k cs=true\/∀ i r,q'=q++i::r->¬ (o<=i/\i < o+cs.length))->(∃ k1,a0c av q'=some k1/\Like k' k1)/\(∀ i r,q'=q++i::r->¬ (o<=i/\i < o+cs.length))
 | [],av,ks,cs,o,q',k',hr,hl,hn,hrow,hno=>by
  simp only [a2u] at hr
  simp only [setRow] at hn
  obtain ⟨hlike,hrow'⟩:=a4a av ks (a0o ks o cs) hr (a3k ks o cs hl)
  cases q' with
  | nil=>
   simp only [a0c,Option.some.injEq] at hn
   subst hn
   exact ⟨⟨av,rfl,hlike⟩,fun i r he=>by simp at he⟩
  | cons i r=>
   simp only [a0c,hrow'] at hn
   have hout:¬ (o<=i/\i < o+cs.length):=by
    rcases hno with hno | hno
    ·intro hin
     rw [a6q ks o cs hl i hin] at hn
     cases hc:cs[i - o]? with
     | none=>simp [hc] at hn
     | some c=>
      simp only [hc] at hn
      have h1:=c05 (a9p hno hc)
      obtain ⟨_,h2⟩:=a9y h1 hn
      subst h2
      rw [a5j (a9p hno hc)] at hrow; simp at hrow
    ·exact hno i r rfl
   rw [a30 ks o cs hl i hout] at hn
   refine ⟨⟨k',?_,Like.refl k'⟩,fun i' r' he=> ?_⟩
   ·simp only [a0c,hr]; exact hn
   ·simp only [List.nil_append,List.cons.injEq] at he; rw [<-he.1]; exact hout
 | j::q,av,ks,cs,o,q',k',hr,hl,hn,hrow,hno=>by
  simp only [a2u] at hr
  cases h0:a0l av with
  | none=>simp [h0] at hr
  | some ks0=>
   simp only [h0] at hr
   cases hj:ks0[j]? with
   | none=>simp [hj] at hr
   | some kj=>
    simp only [hj] at hr
    simp only [setRow,h0,hj] at hn
    obtain ⟨hlike,hrow'⟩:=a4a av ks0 (ks0.set j (setRow kj q (a0o ks o cs))) h0 (by simp)
    cases q' with
    | nil=>
     simp only [a0c,Option.some.injEq] at hn
     subst hn
     exact ⟨⟨av,rfl,hlike⟩,fun i r he=>by simp at he⟩
    | cons i r=>
     simp only [a0c,hrow'] at hn
     simp only [a0c,h0]
     by_cases hij:i=j
     ·subst hij
      have hlt:i < ks0.length:=(List.getElem?_eq_some_iff.1 hj).1
      simp only [List.getElem?_set,hlt,if_true] at hn
      simp only [hj]
      have:=a6i q hr hl hn hrow (hno.imp id (fun h i' r' he=>h i' r' (by rw [he]; rfl)))
      exact ⟨this.1,fun i' r' he=>this.2 i' r' (by simpa using he)⟩
     ·rw [List.getElem?_set_ne (by omega)] at hn
      refine ⟨?_,fun i' r' he=>by simp only [List.cons_append,List.cons.injEq] at he; exact absurd he.1 hij⟩
      cases hi:ks0[i]? with
      | none=>simp [hi] at hn
      | some ki=>simp only [hi] at hn ⊢; exact ⟨k',hn,Like.refl k'⟩
open Classical
theorem b22 {w w':World} (h:w'.heap=w.heap):∀ (q:List Nat) (v:Value),a06 w' v q=a06 w v q
 | [],v=>rfl
 | i::q,v=>by
  have hc:∀ a:Addr,w'.cell? a=w.cell? a:=fun a=>by simp [World.cell?,h]
  simp only [a06,hc]
  split
  ·split
   ·exact b22 h q _
   ·rfl
  ·rfl
section
variable {E:Env} {N:Nat} {st:St} {a:Act} {w:World} {val:Nat->Value} {ow:Nat->Option Nat}
theorem Sim.world (h:Sim E N st a w val ow) {w':World} (h1:w'.heap=w.heap) (h2:w'.os=w.os) (h3:w'.tape=w.tape) (h4:w'.output=w.output):Sim E N st a w' val ow:=
 have hM:∀ b,Mo E w ow b->Mo E w' ow b:=fun b hb=>⟨hb.1,by rw [h1]; exact hb.2.1,hb.2.2⟩
 { size:=h.size,defers:=h.defers,agree:=h.agree,lt:=fun b t hb=>by rw [h1]; exact h.lt b t hb,old:=fun b hb hF=>by rw [h1]; exact h.old b hb hF,le:=by rw [h1]; exact h.le,
   os:=h2.trans h.os,tape:=h3.trans h.tape,output:=h4.trans h.output,glob:=fun g v hg=>(h.glob g v hg).keep (by rw [h1]),globA:=h.globA,
   slots:=a1y h (fun _ _=>false) (fun _=>False) (fun t _=>by rw [a2z]; exact ⟨rfl,rfl,fun b hb=>⟨hb,by rw [h1]⟩⟩) (fun t ht=>ht.elim) (fun b hb=>⟨hM b hb,by rw [h1]⟩) (fun t q _=>Stab.same rfl rfl (b22 h1 q _)) }
theorem Sim.alloc (h:Sim E N st a w val ow) {j:Nat} (hj:N<=j) {ks:List AV} (hs:st.s j= .agg ks) :
  ∃ arr:Array Value,val j= .agg arr/\∀ (arr':Array Value) (T:TypeId) (fz:Nat×Nat) (w':World) (av:AV) (v:Value),w'.heap=w.heap.push (.cells arr' T fz)->w'.os=w.os->w'.tape=w.tape->w'.output=w.output->
   (∀ (M:BS) (F:BS),F w.heap.size->w'.heap[w.heap.size]? =some (.cells arr' T fz)->C1 arr.toList->RL w' M ks noQ (fun x=>F x/\x≠w.heap.size) arr.toList->R w' M av noQ F v)->
   Sim E N (st.put j av) a w' (a0u val j v) (fun b=>if b=w.heap.size then some j else ow b):=by
 have hrj:=h.slots j
 rw [hs] at hrj
 simp only [R] at hrj
 obtain ⟨arr,hv,hc1,hr⟩:=hrj
 refine ⟨arr,hv,fun arr' T fz w' av v e1 e2 e3 e4 hmk=> ?_⟩
 have hlt:∀ b,b < w.heap.size->w'.heap[b]? =w.heap[b]? :=fun b hb=>by rw [e1,Array.getElem?_push_lt hb]; simp [hb]
 have hsz:w'.heap.size=w.heap.size+1:=by rw [e1]; simp
 have hne:∀ b t,ow b=some t->b≠w.heap.size:=fun b t hb=>by have:=h.lt b t hb; omega
 have hM:∀ b,Mo E w ow b->Mo E w' (fun b=>if b=w.heap.size then some j else ow b) b/\w'.heap[b]? =w.heap[b]? :=fun b hb=>by
  have h1:=hb.2.1
  refine ⟨⟨?_,by omega,hb.2.2⟩,hlt b h1⟩
  have:b≠w.heap.size:=by omega
  simp [this,hb.1]
 have hQ:∀ t q,Stab w st val w' (st.put j av) (a0u val j v) t q:=fun t q=>by
  by_cases ht:t=j
  ·subst ht; exact Stab.put (v:=av) (by simp) (by simp [St.put_ep]) q
  ·refine ⟨by simp [St.put_ep,ht],fun _ k' hk _=>⟨k',by simpa [ht] using hk,fun ks' h hne=>⟨ks',h,hne⟩,fun _ _ ks' h=>⟨ks',h⟩,fun h=>h,?_⟩⟩
   simp only [a0u,ht,if_false]
   have hk':a0c (st.s t) q=some k':=by simpa [ht] using hk
   exact a15 q (h.slots t) hk' (fun b hb=>hlt b (h.lt b t hb))
 exact { size:=h.size,defers:=h.defers,agree:=fun t ht=>(h.agree t ht).trans (by have:t≠j:=by omega
                                                                                 simp [a0u,this]),
         lt:=fun b t hb=>by
          by_cases h1:b=w.heap.size
          ·omega
          ·simp [h1] at hb; have:=h.lt b t hb; omega
         old:=fun b hb hF=>by
          have h1:b < w.heap.size:=Nat.lt_of_lt_of_le hb h.le
          have:b≠w.heap.size:=by omega
          exact ⟨by simp [this,(h.old b hb hF).1],(hlt b h1).trans (h.old b hb hF).2⟩
         le:=by have:=h.le; omega
         os:=e2.trans h.os,tape:=e3.trans h.tape,output:=e4.trans h.output
         glob:=fun g v hg=>(h.glob g v hg).keep (hlt g (Nat.lt_of_lt_of_le (h.globA g v hg).1 h.le))
         globA:=h.globA
         slots:=a1y h (fun _ _=>false) (fun u=>u=j) (fun t ht=>by
           have ht':t≠j:=ht
           rw [a2z]
           refine ⟨by simp [ht'],by simp [a0u,ht'],fun b hb=>⟨by simp [hne b t hb,hb],hlt b (h.lt b t hb)⟩⟩) (fun t ht=>by
           have ht':t=j:=ht
           subst ht'
           simp only [St.put_s,if_true,a0u]
           refine a0t (fun _ h=>h) (fun _ _=>rfl) av (Q:=noQ) (fun _ _ h=>h.elim) (fun _ h=>h) (fun _ _=>rfl) (hmk _ _ (by simp) (by rw [e1]; simp) hc1 ?_)
           exact a1a (fun b hb=>(hM b hb).1) (fun b hb=>(hM b hb).2) ks (fun _ _ h=>h) (fun b hb=>by
            have h1:=hne b t hb
            exact ⟨by simp [h1,hb],h1⟩) (fun b hb=>hlt b (h.lt b t hb)) hr) hM (fun t q _=>hQ t q) }
def a9v (t:Nat) (q:List Nat) (o m:Nat):Nat->List Nat->Bool:=fun t' q'=>
 t'==t&&q.isPrefixOf q'&&match q'.drop q.length with | i::_=>decide (o<=i)&&decide (i < o+m) | []=>false
theorem c0r {t:Nat} {q:List Nat} {o m t':Nat} {q':List Nat} (h:a9v t q o m t' q'=false) (ht:t'=t) (i:Nat) (r:List Nat) (he:q'=q++i::r):¬ (o<=i/\i < o+m):=by
 subst ht he
 simp [a9v] at h
 omega
theorem b4l {w:World} {M:BS} {ks cs:List AV} {F F2:BS} {vs us:List Value} {o:Nat} (h:RL w M ks noQ F vs) (h2:RL w M cs noQ F2 us) (hd:∀ b,F b->F2 b->False) (hl:o+cs.length<=ks.length) :
  RL w M (a0o ks o cs) noQ (fun x=>F x\/F2 x) (a0o vs o us):=by
 have e:ks=ks.take o++(ks.drop o):=(List.take_append_drop o ks).symm
 rw [e] at h
 obtain ⟨v1,v2,rfl,F1,F3,g1,g3,gd,r1,r2⟩:=a16 h
 have e2:ks.drop o=(ks.drop o).take cs.length++ks.drop (o+cs.length):=by rw [<-List.drop_drop,List.take_append_drop]
 rw [e2] at r2
 obtain ⟨v3,v4,rfl,F4,F5,g4,g5,gd2,r3,r4⟩:=a16 r2
 have l1:v1.length=o:=by rw [a0m r1,List.length_take]; omega
 have l3:v3.length=cs.length:=by rw [a0m r3,List.length_take,List.length_drop]; omega
 have l2:us.length=cs.length:=a0m h2
 have e3:a0o (v1++(v3++v4)) o us=v1++us++v4:=by
  unfold a0o
  rw [<-l1,List.take_left,List.append_assoc,List.append_assoc]
  congr 2
  rw [<-List.drop_drop,List.drop_left,l2,<-l3,List.drop_left]
 rw [e3]
 unfold a0o
 refine a1r ?_ (a1e (a1e r1 h2 (fun b hb hb2=>hd b (g1 b hb) hb2)) r4 ?_)
 ·rintro x ((hx | hx) | hx)
  ·exact .inl (g1 x hx)
  ·exact .inr hx
  ·exact .inl (g3 x (g5 x hx))
 ·rintro b (hb | hb) hb2
  ·exact gd b hb (g5 b hb2)
  ·exact hd b (g3 b (g5 b hb2)) hb
theorem b4e {vs us:List Value} {o:Nat} (h:C1 vs) (h2:C1 us):C1 (a0o vs o us):=by
 intro u hu
 unfold a0o at hu
 rcases List.mem_append.1 hu with hu | hu
 ·rcases List.mem_append.1 hu with hu | hu
  ·exact h u (List.mem_of_mem_take hu)
  ·exact h2 u hu
 ·exact h u (List.mem_of_mem_drop hu)
theorem b60 (kl:Nat->List Nat->Bool) (av:AV):a0l (a0x kl av)=a0l av:=by
 cases av<;>simp only [a0x]
 case fn=>rfl
 case ref t q o e=>cases kl t q<;>simp [a0l]
 case bor t q lo n e=>cases kl t q<;>simp [a0l]
 case loan=>rfl
theorem c2x (kl:Nat->List Nat->Bool) (av:AV):nm (a0x kl av)=nm av:=by
 cases av<;>simp only [a0x]
 case fn=>rfl
 case ref t q o e=>cases kl t q<;>simp
 case bor t q lo n e=>cases kl t q<;>simp
 case loan=>rfl
theorem c0s (kl:Nat->List Nat->Bool) {av:AV} (h:nm av=true):a0x kl av=av:=by
 cases av<;>simp only [a0x]<;>simp at h
theorem a9x (kl:Nat->List Nat->Bool) {av:AV} {q:List Nat} {k:AV} (h:a0c (a0x kl av) q=some k) (hr:nm k=true):a0c av q=some k:=by
 cases q with
 | nil=>
  simp only [a0c,Option.some.injEq] at h ⊢
  subst h
  rw [c2x] at hr
  exact (c0s kl hr).symm
 | cons i q=>simp only [a0c,b60] at h ⊢; exact h
theorem Sim.store (h:Sim E N st a w val ow) {t j o:Nat} {q:List Nat} {ks cs:List AV} (hj:N<=j) (htj:t≠j) (hrow:a2u (st.s t) q=some ks) (hcs:st.s j= .agg cs) (hpos:0 < cs.length) (hl:o+cs.length<=ks.length) (kl:Bool) (hkl:kl=true\/a0k cs=true) :
  ∃ b cur T fz,∃ arr:Array Value,blk w (val t) q=some b/\w.heap[b]? =some (.cells cur T fz)/\b1q fz cur.size/\val j= .agg arr/\C1 arr.toList/\arr.size=cs.length/\o+arr.size<=cur.size/\
   ∀ w':World,w'.heap=w.heap.setIfInBounds b (.cells (a0o cur.toList o arr.toList).toArray T fz)->w'.os=w.os->w'.tape=w.tape->w'.output=w.output->
    ∃ ow',Sim E N ⟨fun u=>if u=t then setRow (st.s t) q (a0o ks o cs) else if u=j then .dead else a0x (if kl then a9v t q o cs.length else fun _ _=>false) (st.s u),st.ep⟩ a w' val ow':=by
 have hne:ks≠[]:=by intro he; rw [he] at hl; simp only [List.length_nil] at hl; omega
 obtain ⟨b,cur,T,fz,e1,e2,e3,e4,e5,e5c,Fk,G,e6,e7,e8,fill⟩:=b2f q (h.slots t) hrow hne
 have hrj:=h.slots j
 rw [hcs] at hrj
 simp only [R] at hrj
 obtain ⟨arr,hv,hc1,hr⟩:=hrj
 have harr:arr.size=cs.length:=by rw [<-Array.length_toList]; exact a0m hr
 have hlt:b < w.heap.size:=h.lt b t e2
 refine ⟨b,cur,T,fz,arr,e1,e3,e4,hv,hc1,harr,by rw [harr]; omega,fun w' f1 f2 f3 f4=> ?_⟩
 have hw:∀ x,x≠b->w'.heap[x]? =w.heap[x]? :=fun x hx=>by rw [f1,Array.getElem?_setIfInBounds_ne (Ne.symm hx)]
 have hb:w'.heap[b]? =some (.cells (a0o cur.toList o arr.toList).toArray T fz):=by rw [f1]; simp [hlt]
 have hsz:w'.heap.size=w.heap.size:=by rw [f1]; simp
 have hcell:∀ i,¬ (o<=i/\i < o+cs.length)->w'.cell? ⟨b,i,none⟩=w.cell? ⟨b,i,none⟩:=fun i hi=>by
  rw [a0z hb,a0z e3]
  have:=a30 cur.toList o arr.toList (by simp; omega) i (by simpa [harr] using hi)
  simpa using this
 let ow':Nat->Option Nat:=fun x=>if ow x=some j then some t else ow x
 have hno:∀ x,ow x=none->ow' x=none:=fun x hx=>by simp [ow',hx]
 have hMb:∀ x,Mo E w ow x->x≠b:=fun x hx he=>by subst he; have:=hx.1; rw [e2] at this; cases this
 have hM:∀ x,Mo E w ow x->Mo E w' ow' x/\w'.heap[x]? =w.heap[x]? :=fun x hx=>⟨⟨hno x hx.1,by rw [hsz]; exact hx.2.1,hx.2.2⟩,hw x (hMb x hx)⟩
 have hbj:∀ u,u≠t->∀ x,ow x=some u->x≠b:=fun u hu x hx he=>by subst he; rw [e2] at hx; injection hx with hx; exact hu hx.symm
 refine ⟨ow',{ size:=h.size,defers:=h.defers,agree:=h.agree,lt:=fun x u hx=> ?_,old:=fun x hx hF=> ?_,le:=(by rw [hsz]; exact h.le),os:=f2.trans h.os,tape:=f3.trans h.tape,output:=f4.trans h.output,glob:=fun g v hg=> ?_,globA:=h.globA,slots:=a1y h (if kl then a9v t q o cs.length else fun _ _=>false) (fun u=>u=t\/u=j) (fun u hu=> ?_) (fun u hu=> ?_) hM (fun u q' hk=> ?_) }⟩
 ·rw [hsz]
  by_cases h1:ow x=some j
  ·exact h.lt x j h1
  ·simp only [ow',h1,if_false] at hx; exact h.lt x u hx
 ·have h1:=h.old x hx hF
  have:x≠b:=fun he=>by subst he; rw [e2] at h1; cases h1.1
  exact ⟨hno x h1.1,(hw x this).trans h1.2⟩
 ·refine (h.glob g v hg).keep (hw g fun he=> ?_)
  have h1:=(h.old g (h.globA g v hg).1 (h.globA g v hg).2).1
  rw [he,e2] at h1; cases h1
 ·have h1:u≠t:=fun he=>hu (.inl he)
  have h2:u≠j:=fun he=>hu (.inr he)
  refine ⟨by simp [h1,h2],rfl,fun x hx=>⟨?_,hw x (hbj u h1 x hx)⟩⟩
  have:ow x≠some j:=by rw [hx]; simpa using h2
  simp [ow',hx,h2]
 ·by_cases hut:u=t
  ·subst hut
   simp only [if_true]
   have hjb:∀ x,ow x=some j->x≠b:=fun x hx he=>by subst he; rw [e2] at hx; injection hx with hx; exact htj hx
   have hs:=b4l (o:=o) e8 hr (fun x hx hx2=>by have:=(e6 x hx).1; rw [this] at hx2; injection hx2 with hx2; exact htj hx2) hl
   have hs':=a1a (fun x hx=>(hM x hx).1) (fun x hx=>(hM x hx).2) _ (fun _ _ h=>h) (fun _ h=>h) (fun x hx=>hx.elim (fun hx=>hw x (e6 x hx).2.1) (fun hx=>hw x (hjb x hx))) hs
   have hcs':a0o (cur.toList.take ks.length) o arr.toList=(a0o cur.toList o arr.toList).toArray.toList.take ks.length:=by
    have la:arr.toList.length=cs.length:=by simpa using harr
    have lc:cur.toList.length=cur.size:=Array.length_toList
    have hl1:o+arr.toList.length<=(cur.toList.take ks.length).length:=by rw [List.length_take]; omega
    have hl2:o+arr.toList.length<=cur.toList.length:=by omega
    apply List.ext_getElem?
    intro i
    show _=(List.take ks.length (a0o cur.toList o arr.toList))[i]?
    rw [List.getElem?_take]
    by_cases hin:o<=i/\i < o+arr.toList.length
    ·rw [a6q _ _ _ hl1 i hin,a6q _ _ _ hl2 i hin,if_pos (by rw [la] at hin; omega)]
    ·rw [a30 _ _ _ hl1 i hin,a30 _ _ _ hl2 i hin,List.getElem?_take]
   rw [hcs'] at hs'
   refine a1l ?_ (fill w' _ (QS w' _ val) (a0o cur.toList o arr.toList).toArray (a0o ks o cs) _ (fun x hx=>(hM x hx).1) (fun x hx=>(hM x hx).2) (fun x hx=>hw x (e7 x hx).2) hb (by simp [a3k cur.toList o arr.toList (by simp; omega)]) (a3k ks o cs hl) ?_ (by rw [<-hcs']; exact b4e e5c hc1) hs')
   ·rintro x ((hx | hx) | hx | hx)
    ·have:=(e6 x hx).1
     simp [ow',this]
    ·simp [ow',hx]
    ·have:=(e7 x hx).1
     simp [ow',this]
    ·subst hx; simp [ow',e2]
   ·rintro x (hx | hx)
    ·exact ⟨(e6 x hx).2.1,(e6 x hx).2.2⟩
    ·exact ⟨hjb x hx,fun hg=>by have:=(e7 x hg).1; rw [hx] at this; injection this with this; exact htj this.symm⟩
  ·have:u=j:=hu.resolve_left hut
   subst this
   simp [hut,R]
 ·by_cases hut:u=t
  ·subst hut
   refine ⟨Nat.le_refl _,fun _ k' hk' hrow'=> ?_⟩
   simp only [if_true] at hk'
   have hn:=a6i q hrow hl hk' hrow' (by
    rcases hkl with hkl | hkl
    ·simp only [hkl,if_true] at hk
     exact .inr (fun i r he=>c0r hk rfl i r he)
    ·exact .inl hkl)
   obtain ⟨⟨k1,h1,h2⟩,h3⟩:=hn
   refine ⟨k1,h1,fun ks' hks hne'=> ?_,h2.2.1,h2.2.2,?_⟩
   ·obtain ⟨ks1,g1,g2⟩:=h2.1 ks' hks
    exact ⟨ks1,g1,fun he=>hne' (by rw [he] at g2; exact List.eq_nil_of_length_eq_zero g2.symm)⟩
   ·exact b1r hw hcell q (h.slots u) hrow hne e1 h1 h3
  ·by_cases huj:u=j
   ·subst huj
    refine ⟨Nat.le_refl _,fun _ k' hk' hrow'=> ?_⟩
    simp only [hut,if_false,if_true] at hk'
    have:=a9y (k:= .dead) rfl hk'
    rw [this.2] at hrow'; simp [a0l] at hrow'
   ·refine ⟨Nat.le_refl _,fun _ k' hk' hrow'=> ?_⟩
    simp only [hut,huj,if_false] at hk'
    have h1:=a9x _ hk' hrow'
    exact ⟨k',h1,fun ks' h hne=>⟨ks',h,hne⟩,fun _ _ ks' h=>⟨ks',h⟩,fun h=>h,a15 q' (h.slots u) h1 (fun x hx=>hw x (hbj u hut x hx))⟩
end
open Classical
theorem a1u (b o j:Nat):(⟨b,o,none⟩:Addr).add j=⟨b,o+j,none⟩:=by unfold Addr.add; split<;>simp_all
theorem a3w (P:Program) (g o:Nat) (t:TypeId) (fz:Nat×Nat):∀ (vs:List Value) (i:Nat) (cur:Array Value) (w:World),w.heap[g]? =some (.cells cur t fz)->b1q fz cur.size->o+i+vs.length<=cur.size->C1 vs->
  (storeCells ⟨g,o,none⟩ vs i).run P w= .ok () (w.setRow g (cur.toList.take (o+i)++vs++cur.toList.drop (o+i+vs.length)).toArray)
 | [],i,cur,w,hg,_,_,_=>by
  simp only [storeCells,List.append_nil,List.length_nil,Nat.add_zero,List.take_append_drop,Array.toArray_toList]
  rw [setRow_self w g cur t fz hg]
  rfl
 | v::rest,i,cur,w,hg,hz,hl,h1=>by
  have hi:o+i < cur.size:=by simp at hl; omega
  have hcell:w.cell? ⟨g,o+i,none⟩=some cur[o+i]:=by simp [World.cell?,hg,hi]
  have hfro:w.frozen? ⟨g,o+i,none⟩=false:=by
   simp only [World.frozen?,hg]
   rcases hz with h | h<;>simp<;>omega
  have hst:(store ((⟨g,o,none⟩:Addr).add i) v).run P w= .ok () (w.setRow g (cur.setIfInBounds (o+i) v)):=by
   rw [a1u,run_store P w _ v _ (h1 v (by simp)),hcell]
   simp [hfro,setCell_eq_setRow w g (o+i) cur t fz v hg]
  have ih:=a3w P g o t fz rest (i+1) (cur.setIfInBounds (o+i) v) (w.setRow g (cur.setIfInBounds (o+i) v)) (setRow_heap w g cur _ t _ hg) (by simpa using hz) (by simp at hl ⊢; omega) (fun x hx=>h1 x (by simp [hx]))
  simp only [storeCells,Sem.run_bind,hst,Result.andThen_ok,ih,setRow_setRow]
  congr 3
  have e:=list_seg_step cur.toList (o+i) v rest (by simp at hl ⊢; omega)
  simpa [Array.toList_setIfInBounds,Nat.add_assoc] using e
section
variable {P:Program} (w:World)
theorem b1c (t ty e:TypeId) (i:TypeInfo) (ht:P.underlying t=some (.slice e)) (hi:P.info? e=some i) (base ay:Option Addr) (n c c2:Nat) (hn:n<=c) :
  (Builtin.append_ #[t,t] ty #[.slice base n c,.slice ay 0 c2]).run P w= .ok (.slice base n c) w:=by
 cases base<;>cases ay<;>simp [Builtin.append_,run_underlying ht,sizeOf,typeInfo,hi,Builtin.lenOf,Builtin.firstCells,loadCells,loadCellsFrom,hn,storeCells]
theorem a84 (t ty e:TypeId) (i:TypeInfo) (ht:P.underlying t=some (.slice e)) (hi:P.info? e=some i)
  (g sLen sCap:Nat) (cur:Array Value) (T:TypeId) (fz:Nat×Nat) (hg:w.heap[g]? =some (.cells cur T fz)) (hz:b1q fz cur.size)
  (a:Addr) (m c:Nat) (news:List Value) (hl:news.length=m*i.size) (hnews:∀ j u,news[j]? =some u->w.cell? (a.add j)=some u) (h1:C1 news)
  (hroom:sLen+m<=sCap) (hfit:sLen*i.size+news.length<=cur.size) :
  (Builtin.append_ #[t,t] ty #[.slice (some ⟨g,0,none⟩) sLen sCap,.slice (some a) m c]).run P w=
   .ok (.slice (some ⟨g,0,none⟩) (sLen+m) sCap) (w.setRow g (cur.toList.take (sLen*i.size)++news++cur.toList.drop (sLen*i.size+news.length)).toArray):=by
 have hf:=run_firstCells_some (P:=P) w i.size m a m c news hl hnews
 have hst:=a3w P g (sLen*i.size) T fz news 0 cur w hg hz (by simpa using hfit) h1
 simp only [Nat.add_zero] at hst
 simp [Builtin.append_,run_underlying ht,sizeOf,typeInfo,hi,Builtin.lenOf,hroom,hf,Addr.add_lit,hst]
end
theorem e2j {w:World} {M:BS} {av:AV} {Q:QR} {F:BS} {v:Value} {sz m:Nat} {ys:List AV} (h:R w M av Q F v) (he:av= .own sz m ys\/(av= .sl m ys/\ys.length=m*sz)) :
  ∃ a c news,v= .slice a m c/\C1 news/\RL w M ys noQ F news/\news.length=m*sz/\(0 < m*sz->∃ b o,a=some ⟨b,o,none⟩/\∀ j u,news[j]? =some u->w.cell? ⟨b,o+j,none⟩=some u):=by
 rcases he with rfl | ⟨rfl,hl⟩
 ·simp only [R] at h
  rcases h with ⟨rfl,h1,a,hv⟩ | ⟨b,c,cur,T,fz,hv,hb,hh,hz,h1,h2,h3,h4,hr⟩
  ·exact ⟨a,0,[],hv,fun _ h=>by simp at h,a1r (fun _ h=>h.elim) h1,by simp,fun h=>by simp at h⟩
  ·refine ⟨_,c,_,hv,h4,a1r (fun _ hx=>hx.1) hr,?_,fun _=>⟨b,0,rfl,fun j u hu=> ?_⟩⟩
   ·have:m*sz<=cur.size:=by rw [h3]; exact Nat.mul_le_mul_right _ h1
    rw [List.length_take,Array.length_toList]; omega
   ·rw [Nat.zero_add,a0z hh]; exact a1i hu
 ·simp only [R] at h
  obtain ⟨a,c,hv,hc,vs,h1,hr,h2⟩:=h
  have hlen:=a0m hr
  refine ⟨a,c,vs,hv,h1,a1r (fun _ h=>h.elim) hr,by omega,fun hp=> ?_⟩
  rcases h2 with h2 | ⟨b,o,ha,hb,hcell⟩
  ·rw [h2] at hlen; simp at hlen; omega
  ·exact ⟨b,o,ha,hcell⟩
section
variable {E:Env} {N:Nat} {st:St} {a:Act} {w:World} {val:Nat->Value} {ow:Nat->Option Nat}
theorem b7g (st:St) (t:Nat) (v u:AV) (h:nm v=false):(st.put t v).put t u=st.put t u:=by
 unfold St.put
 congr 1
 ·funext x; by_cases hx:x=t<;>simp [hx]
 ·funext x; by_cases hx:x=t<;>simp [hx,h]
theorem b1s (val:Nat->Value) (t:Nat) (v u:Value):a0u (a0u val t v) t u=a0u val t u:=by
 funext x; unfold a0u; by_cases hx:x=t<;>simp [hx]
theorem Sim.append (h:Sim E N st a w val ow) {i j sz n m:Nat} {xs ys:List AV} (hi:N<=i) (hj:N<=j) (hij:i≠j) (hsi:st.s i= .own sz n xs) (hsj:st.s j= .own sz m ys\/(st.s j= .sl m ys/\ys.length=m*sz))
  {P:Program} {t ty e:TypeId} {info:TypeInfo} {z:Value} (ht:P.underlying t=some (.slice e)) (hinfo:P.info? e=some info) (hz:info.zero=some z) (hsz:info.size=sz) (hzs:z.cells.size=sz) (hpos:0 < sz)
  (h63:n+m<=maxLen) (hby:(n+m)*info.bytes<=140737488355328) :
  ∃ v' w',(Builtin.append_ #[t,t] ty #[val i,val j]).run P w= .ok v' w'/\∃ ow',Sim E N ((st.set j .dead).put i (.own sz (n+m) (xs++ys))) a w' (a0u val i v') ow':=by
 have hsmall:n+m<=9223372036854775807:=by simp only [maxLen] at h63; omega
 have hri:=h.slots i
 rw [hsi] at hri
 have hrj:=h.slots j
 obtain ⟨ay,cy,news,hvj,hn1,hrn,hnl,hncell⟩:=e2j (sz:=sz) hrj hsj
 subst hsz
 let ow1:Nat->Option Nat:=fun b=>if ow b=some j then some i else ow b
 have hno:∀ x,ow x=none->ow1 x=none:=fun x hx=>by simp [ow1,hx]
 rcases Nat.eq_zero_or_pos m with hm | hm
 ·-- nothing is appended
  subst hm
  have hys:ys=[]:=by
   have:=a0m hrn
   simp at hnl
   rw [hnl] at this
   exact List.eq_nil_of_length_eq_zero (by simpa using this.symm)
  subst hys
  have hvi:∃ base c,val i= .slice base n c/\n<=c:=by
   simp only [R] at hri
   rcases hri with ⟨h0,_,a,hv⟩ | ⟨b,c,cur,T,fz,hv,_,_,_,h1,_⟩
   ·exact ⟨a,0,by rw [h0]; exact hv,by omega⟩
   ·exact ⟨_,c,hv,h1⟩
  obtain ⟨base,c,hv,hc⟩:=hvi
  refine ⟨val i,w,by rw [hvj,hv]; exact b1c w t ty e info ht hinfo base ay n c cy hc,ow1,?_⟩
  exact h.merge (Ne.symm hij) hi (av:= .own info.size (n+0) (xs++[])) (v:=val i) (fun F hF1 hF2=>by
   rw [Nat.add_zero,List.append_nil]
   exact a0t (fun _ h=>h) (fun _ _=>rfl) _ (Q:=noQ) (fun _ _ h=>h) hF2 (fun _ _=>rfl) (by simp only [R] at hri ⊢; exact hri))
 ·have hmp:0 < m*info.size:=Nat.mul_pos hm hpos
  obtain ⟨b2,o2,hay,hcells⟩:=hncell hmp
  have hcells':∀ k u,news[k]? =some u->w.cell? ((⟨b2,o2,none⟩:Addr).add k)=some u:=fun k u hu=>by rw [a1u]; exact hcells k u hu
  have grow:∀ (olds:List Value) (old:Nat) (v':Value) (w':World),olds.length=n*info.size->C1 olds->old < n+m->
    (∃ Fx:BS,(∀ b,Fx b->ow b=some i)/\RL w (Mo E w ow) xs noQ Fx olds)->v'= .slice (some ⟨w.heap.size,0,none⟩) (n+m) (grownCap w (n+m) old e)->
    w'=w.drew.alloc (.cells (olds.toArray++news.toArray++Builtin.zeroCells z.cells (grownCap w (n+m) old e - (n+m))) e)->
    ∃ ow',Sim E N ((st.set j .dead).put i (.own info.size (n+m) (xs++ys))) a w' (a0u val i v') ow':=by
   intro olds old v' w' hlo hc1 hold ⟨Fx,hFx,hrx⟩ hv' hw'
   have hd:∀ b,Fx b->ow b=some j->False:=fun b h1 h2=>by rw [hFx b h1] at h2; injection h2 with h2; exact hij h2
   have hm1:=h.merge (t:=j) (j:=i) (Ne.symm hij) hi (av:= .agg (xs++ys)) (v:= .agg (olds++news).toArray) (fun F hF1 hF2=>by
    simp only [R]
    refine ⟨_,rfl,?_,?_⟩
    ·intro u hu
     simp at hu
     exact hu.elim (hc1 u) (hn1 u)
    ·exact a1r (by rintro x (hx | hx)
                   ·exact hF2 x (hFx x hx)
                   ·exact hF1 x hx) (a1e hrx hrn (fun b h1 h2=>hd b h1 h2)))
   have hm2:=hm1.world (w':=w.drew) rfl rfl rfl rfl
   obtain ⟨arr,harr,hal⟩:=hm2.alloc hi (ks:=xs++ys) (by simp)
   simp only [a0u,if_true] at harr
   injection harr with harr
   have hge:=grownCap_ge w (n+m) old e
   have hcm:grownCap w (n+m) old e<=maxLen:=grownCap_le_maxLen w (n+m) old e h63
   subst harr
   have hfin:=hal (olds.toArray++news.toArray++Builtin.zeroCells z.cells (grownCap w (n+m) old e - (n+m))) e (0,0) w' (.own info.size (n+m) (xs++ys)) v' (by rw [hw']; rfl) (by rw [hw']; rfl) (by rw [hw']; rfl) (by rw [hw']; rfl) (fun M F hF hh hc hr=> ?_)
   ·rw [b7g _ _ _ _ (by simp [a0l]),b1s] at hfin
    exact ⟨_,hfin⟩
   ·have hlen:(olds++news).length=(n+m)*info.size:=by rw [List.length_append,hlo,hnl,Nat.add_mul]
    have htake:(olds.toArray++news.toArray++Builtin.zeroCells z.cells (grownCap w (n+m) old e - (n+m))).toList.take ((n+m)*info.size)=olds++news:=by
     simp only [Array.toList_append]
     rw [<-hlen,List.take_left]
    simp only [R]
    refine .inr ⟨_,_,_,e,(0,0),hv',hF,hh,.inl rfl,hge,hcm,?_,?_,?_⟩
    ·simp only [Array.size_append,List.size_toArray,size_zeroCells,hzs,hlo,hnl,<-Nat.add_mul]
     congr 1
     omega
    ·rw [htake]; simpa using hc
    ·rw [htake]; simpa using hr
  have hri':=hri
  simp only [R] at hri'
  rcases hri' with ⟨h0,hx,base,hv⟩ | ⟨b,c,cur,T,fz,hv,hb,hh,hfz,h1,h2,h3,h4,hr⟩
  ·subst h0
   have hrx:=hx
   cases base with
   | none=>
    have hrun:=run_append_nil (P:=P) w t ty e info z ht hinfo hz ⟨b2,o2,none⟩ m cy news hnl hcells' hm (by omega) (by simp only [Nat.zero_add] at hby; omega)
    refine ⟨_,_,by rw [hv,hvj,hay]; exact hrun,?_⟩
    exact grow [] 0 _ _ (by simp) (fun _ h=>by simp at h) (by omega) ⟨noB,fun _ h=>h.elim,hrx⟩ (by rw [Nat.zero_add]) (by rw [Nat.zero_add]; simp)
   | some base=>
    have hrun:=run_append_grow (P:=P) w t ty e info z ht hinfo hz base 0 0 [] (by simp) (fun _ _ h=>by simp at h) ⟨b2,o2,none⟩ m cy news hnl hcells' (by omega) (by omega) (growslice_fits (by omega) hby)
    refine ⟨_,_,by rw [hv,hvj,hay]; exact hrun,?_⟩
    exact grow [] 0 _ _ (by simp) (fun _ h=>by simp at h) (by omega) ⟨noB,fun _ h=>h.elim,hrx⟩ rfl rfl
  ·have hnc:n*info.size<=cur.size:=by rw [h3]; exact Nat.mul_le_mul_right _ h1
   have hlo:(cur.toList.take (n*info.size)).length=n*info.size:=by rw [List.length_take,Array.length_toList]; omega
   by_cases hroom:n+m<=c
   ·have hfit:n*info.size+news.length<=cur.size:=by rw [hnl,h3,<-Nat.add_mul]; exact Nat.mul_le_mul_right _ hroom
    have hrun:=a84 (P:=P) w t ty e info ht hinfo b n c cur T fz hh hfz ⟨b2,o2,none⟩ m cy news hnl hcells' hn1 hroom hfit
    refine ⟨_,_,by rw [hv,hvj,hay]; exact hrun,ow1,?_⟩
    generalize hnew:(cur.toList.take (n*info.size)++news++cur.toList.drop (n*info.size+news.length)).toArray=new
    have hns:new.size=cur.size:=by rw [<-hnew]; simp; omega
    have htk:new.toList.take ((n+m)*info.size)=cur.toList.take (n*info.size)++news:=by
     have hl:(cur.toList.take (n*info.size)++news).length=(n+m)*info.size:=by rw [List.length_append,hlo,hnl,Nat.add_mul]
     rw [<-hnew,<-hl]; exact List.take_left
    have hw:∀ x,x≠b->(w.setRow b new).heap[x]? =w.heap[x]? :=fun x hx=>setRow_other w b x new hx
    have hb':(w.setRow b new).heap[b]? =some (.cells new T fz):=setRow_heap w b cur new T fz hh
    have hsize:(w.setRow b new).heap.size=w.heap.size:=by simp [World.setRow]
    have hMb:∀ x,Mo E w ow x->x≠b:=fun x hx he=>by subst he; have:=hx.1; rw [hb] at this; cases this
    have hM:∀ x,Mo E w ow x->Mo E (w.setRow b new) ow1 x/\(w.setRow b new).heap[x]? =w.heap[x]? :=fun x hx=>⟨⟨hno x hx.1,by rw [hsize]; exact hx.2.1,hx.2.2⟩,hw x (hMb x hx)⟩
    have hbu:∀ u,u≠i->∀ x,ow x=some u->x≠b:=fun u hu x hx he=>by subst he; rw [hb] at hx; injection hx with hx; exact hu hx.symm
    have hag:∀ t,t < N->a.tmps.getD t undef=a0u val i (.slice (some ⟨b,0,none⟩) (n+m) c) t:=fun t ht=>(h.agree t ht).trans (by simp [a0u,show t≠i by omega])
    refine { size:=h.size,defers:=h.defers,agree:=hag,lt:=fun x u hx=> ?_,old:=fun x hx hF=> ?_,le:=(by rw [hsize]; exact h.le),os:=h.os,tape:=h.tape,output:=h.output,glob:=fun g v hg=> ?_,globA:=h.globA,slots:=a1y h (fun _ _=>false) (fun u=>u=i\/u=j) (fun u hu=> ?_) (fun u hu=> ?_) hM (fun u q' hk=> ?_) }
    ·rw [hsize]
     by_cases e1:ow x=some j
     ·exact h.lt x j e1
     ·simp only [ow1,e1,if_false] at hx; exact h.lt x u hx
    ·have e1:=h.old x hx hF
     have:x≠b:=fun he=>by subst he; rw [hb] at e1; cases e1.1
     exact ⟨hno x e1.1,(hw x this).trans e1.2⟩
    ·refine (h.glob g v hg).keep (hw g fun he=> ?_)
     have e1:=(h.old g (h.globA g v hg).1 (h.globA g v hg).2).1
     rw [he,hb] at e1; cases e1
    ·have e1:u≠i:=fun he=>hu (.inl he)
     have e2:u≠j:=fun he=>hu (.inr he)
     rw [a2z]
     refine ⟨by simp [e1,e2],by simp [a0u,e1],fun x hx=>⟨?_,hw x (hbu u e1 x hx)⟩⟩
     have:ow x≠some j:=by rw [hx]; simpa using e2
     simp [ow1,hx,e2]
    ·by_cases hui:u=i
     ·subst hui
      simp only [St.put_s,if_true,a0u,R]
      refine .inr ⟨b,c,new,T,fz,rfl,by simp [ow1,hb],hb',by rw [hns]; exact hfz,hroom,h2,by rw [hns]; exact h3,by rw [htk]; exact fun x hx=>(List.mem_append.1 hx).elim (h4 x) (hn1 x),?_⟩
      rw [htk]
      have hjb:∀ x,ow x=some j->x≠b:=hbu j (Ne.symm hij)
      refine a1r ?_ (a1e (a1a (fun x hx=>(hM x hx).1) (fun x hx=>(hM x hx).2) xs (fun _ _ h=>h) (fun _ h=>h) (fun x hx=>hw x hx.2) hr)
       (a1a (fun x hx=>(hM x hx).1) (fun x hx=>(hM x hx).2) ys (fun _ _ h=>h) (fun _ h=>h) (fun x hx=>hw x (hjb x hx)) hrn) (fun x h1 h2=>by rw [h1.1] at h2; injection h2 with h2; exact hij h2))
      rintro x (hx | hx)
      ·exact ⟨by simp [ow1,hx.1],hx.2⟩
      ·exact ⟨by simp [ow1,hx],hjb x hx⟩
     ·have:u=j:=hu.resolve_left hui
      subst this
      simp [hui,R]
    ·by_cases hui:u=i
     ·subst hui; exact Stab.put (v:= .own info.size (n+m) (xs++ys)) (by simp) (by simp [St.put_ep]) q'
     ·by_cases huj:u=j
      ·subst huj; exact Stab.norow (by simp [St.put_ep,hui]) (by simp [hui,a0l]) q'
      ·refine ⟨by simp [St.put_ep,hui],fun _ k' hk' _=>⟨k',by simpa [hui,huj] using hk',fun ks' h hne=>⟨ks',h,hne⟩,fun _ _ ks' h=>⟨ks',h⟩,fun h=>h,?_⟩⟩
       simp only [a0u,hui,if_false]
       exact a15 q' (h.slots u) (by simpa [hui,huj] using hk') (fun x hx=>hw x (hbu u hui x hx))
   ·have hrun:=run_append_grow (P:=P) w t ty e info z ht hinfo hz ⟨b,0,none⟩ n c _ hlo (fun k u hu=>by rw [a1u,Nat.zero_add,a0z hh]; exact a1i hu) ⟨b2,o2,none⟩ m cy news hnl hcells' (by omega) (by omega) (growslice_fits (by omega) hby)
    refine ⟨_,_,by rw [hv,hvj,hay]; exact hrun,?_⟩
    exact grow _ c _ _ hlo h4 (by omega) ⟨_,fun b h=>h.1,hr⟩ rfl rfl
end
inductive Ev (α:Type) where
 | ret (a:α)
 | fail
 | get (t:Nat) (k:AV->Nat->Ev α)
 | getv (t:Nat) (k:AV->Ev α)
 | put (t:Nat) (v:AV) (k:Ev α)
 | upd (t:Nat) (v:AV) (k:Ev α)
 | kill (t:Nat) (q:List Nat) (o m:Nat) (k:Ev α)
def St.kill (st:St) (t:Nat) (q:List Nat) (o m:Nat):St:={ st with s:=fun u=>a0x (a9v t q o m) (st.s u) }
namespace Ev
def bind {α β:Type}:Ev α->(α->Ev β)->Ev β
 | .ret a,f=>f a
 | .fail,_=> .fail
 | .get t k,f=> .get t fun v e=>(k v e).bind f
 | .getv t k,f=> .getv t fun v=>(k v).bind f
 | .put t v k,f=> .put t v (k.bind f)
 | .upd t v k,f=> .upd t v (k.bind f)
 | .kill t q o m k,f=> .kill t q o m (k.bind f)
instance:Monad Ev where
 pure:=Ev.ret
 bind:=Ev.bind
def run {α:Type}:Ev α->St->Option (α×St)
 | .ret a,st=>some (a,st)
 | .fail,_=>none
 | .get t k,st=>(k (st.s t) (st.ep t)).run st
 | .getv t k,st=>(k (st.s t)).run st
 | .put t v k,st=>k.run (st.put t v)
 | .upd t v k,st=>k.run (st.set t v)
 | .kill t q o m k,st=>k.run (st.kill t q o m)
theorem run_bind {α β:Type}:∀ (x:Ev α) (f:α->Ev β) (st:St),(x >>=f).run st=(x.run st).bind fun r=>(f r.1).run r.2
 | .ret a,f,st=>rfl
 | .fail,f,st=>rfl
 | .get t k,f,st=>run_bind (k (st.s t) (st.ep t)) f st
 | .getv t k,f,st=>run_bind (k (st.s t)) f st
 | .put t v k,f,st=>run_bind k f (st.put t v)
 | .upd t v k,f,st=>run_bind k f (st.set t v)
 | .kill t q o m k,f,st=>run_bind k f (st.kill t q o m)
theorem run_pure {α:Type} (a:α) (st:St):(pure a:Ev α).run st=some (a,st):=rfl
theorem run_fail {α:Type} (st:St):(Ev.fail:Ev α).run st=none:=rfl
end Ev
def a9g (t:Nat):Ev (AV×Nat):= .get t fun v e=> .ret (v,e)
def b6v (t:Nat):Ev AV:= .getv t fun v=> .ret v
def a2a (t:Nat) (v:AV):Ev Unit:= .put t v (.ret ())
def a9f (t:Nat) (v:AV):Ev Unit:= .upd t v (.ret ())
def b8y (t:Nat) (q:List Nat) (o m:Nat):Ev Unit:= .kill t q o m (.ret ())
theorem a07 (t:Nat) (st:St):(a9g t).run st=some ((st.s t,st.ep t),st):=rfl
theorem a38 (t:Nat) (st:St):(b6v t).run st=some (st.s t,st):=rfl
theorem a5l (t:Nat) (v:AV) (st:St):(a2a t v).run st=some ((),st.put t v):=rfl
theorem a9b (t:Nat) (v:AV) (st:St):(a9f t v).run st=some ((),st.set t v):=rfl
theorem b5n (t:Nat) (q:List Nat) (o m:Nat) (st:St):(b8y t q o m).run st=some ((),st.kill t q o m):=rfl
def a2r {α:Type}:Option α->Ev α
 | some a=> .ret a
 | none=> .fail
theorem a0q {α:Type} (o:Option α) (st:St):(a2r o).run st=o.map fun a=>(a,st):=by cases o<;>rfl
def a0f (b:Bool):Ev Unit:=if b then .ret () else .fail
theorem a0d (b:Bool) (st:St):(a0f b).run st=if b then some ((),st) else none:=by cases b<;>rfl
inductive X where
 | t (n:Nat)
 | c (v:Value)
 | nl (sz:Nat)
 | g (n:Nat)
 | f (n:Nat)
def X.op:X->Operand
 | .t n=> .tmp n
 | .c v=> .const v
 | .nl _=> .const (.slice none 0 0)
 | .g n=> .global n
 | .f n=> .func n
def a1k:X->Ev (AV×Nat)
 | .t n=>a9g n
 | .c v=> .ret (.lit v,0)
 | .nl sz=> .ret (.own sz 0 [],0)
 | .g n=> .ret (.lit (.pointer (some ⟨n,0,none⟩)),0)
 | .f n=> .ret (.fn n [] [],0)
def a99:X->Ev Nat
 | .t n=> .ret n
 | _=> .fail
inductive CK where
 | int (k:IntKind)
 | str
 | keep
inductive IOp where
 | mv (x:X)
 | asg (x:X)
 | mva (x:X)
 | mvf (x:X)
 | pick (c a b:X)
 | alloc (T:TypeId) (zs:List AV)
 | box (T:TypeId) (sz:Nat) (x:X)
 | build (T:TypeId) (zs:List AV) (parts:List (Nat×Nat×Nat×X))
 | bslice (T e:TypeId) (sz len:Nat) (zs:List AV) (parts:List (Nat×X))
 | load (T:TypeId) (sz:Option Nat) (x:X)
 | lmv (T:TypeId) (sz:Nat) (x:X)
 | store (T:TypeId) (sz:Nat) (a v:X)
  | stf (T:TypeId) (sz:Nat) (a v:X)
 | nilck (x:X)
 | bin (b:BinOp) (T kd:Nat) (x y:X) (yT:TypeId)
 | un (u:UnOp) (T:TypeId) (x:X)
 | eqs (b:BinOp) (T tp te:TypeId) (x y:X) (yT:TypeId)
 | conv (s d:TypeId) (k:CK) (x:X)
 | mki (T:TypeId) (x:X)
 | mkf (f:FuncId) (first caps:List X)
  | mkz (f:FuncId) (first caps:List X)
 | mks (T e:TypeId) (sz by_:Nat) (zs:List AV) (l c:X)
 | slice (T:TypeId) (sz:Nat) (x:X) (lo hi mx:Option X)
 | faddr (T:TypeId) (off:Nat) (x:X) (f:Nat)
  | aaddr (T:TypeId) (off:Nat) (x:X) (k:Nat)
 | iaddr (T:TypeId) (sz:Nat) (x i:X)
  | aaddrv (T:TypeId) (sz n:Nat) (x i:X)
 | ext (x:X) (i:Nat)
 | tas (x:X) (xT T:TypeId) (zs:List AV)
 | len (T:TypeId) (str:Bool) (x:X)
 | app (T e:TypeId) (sz by_:Nat) (x y:X)
 | mm (mx:Bool) (ts:List TypeId) (xs:List X)
 | mkmap (T:TypeId)
 | mget (T e:TypeId) (zs:List AV) (x k:X)
 | mset (T e:TypeId) (x k v:X)
 | lend (T:TypeId) (sz:Nat) (x:X)
  | fld (T:TypeId) (off:Nat) (x:X) (f:Nat)
def b6h (x:X):Ev (Nat×List Nat×Nat):=do
 let r<-a1k x
 match r.1 with
 | .var _=>do let t<-a99 x; pure (t,[],0)
 | .ref t q o e=>do
  let r2<-a9g t
  a0f (e==r2.2)
  pure (t,q,o)
 | _=> .fail
def a5x (x:X):Ev (Nat×List Nat×Nat×Nat):=do
 let r<-a1k x
 match r.1 with
 | .own _ n _=>do let t<-a99 x; pure (t,[],0,n)
 | .bor t q lo n e=>do
  let r2<-a9g t
  a0f (e==r2.2)
  pure (t,q,lo,n)
 | _=> .fail
def c06 (t:Nat) (q:List Nat):Ev AV:=do
 let r<-a9g t
 a2r (a0c r.1 q)
def a3b (x:X) (j:Nat):Ev Unit:=do
 let r<-a1k x
 match r.1 with
 | .dead | .tup _ | .ref _ _ _ _=> .fail
 | .bor t q lo n e=>do
  let r2<-a9g t
  a0f (e==r2.2)
  let k<-a2r (a0c r2.1 q)
  match k with
  | .own sz n0 ks=>do
   a0f (decide (lo+n<=n0)&&decide (t < j))
   a9f t (a0h r2.1 q (frz k))
   a2a j (.agg [.sl n (((a1b ks).drop (lo*sz)).take (n*sz))])
  | _=> .fail
 | .agg ks=>do let t<-a99 x; a2a t .dead; a2a j (.agg ks)
 | .own sz n ks=>
  match x with
  | .t t=>do a2a t .dead; a2a j (.agg [.own sz n ks])
  | _=>a2a j (.agg [.own sz n ks])
 | .var ks=>do let t<-a99 x; a2a t .dead; a2a j (.agg [frz (.var ks)])
 | .ifc T k=>do let t<-a99 x; a2a t .dead; a2a j (.agg [frz (.ifc T k)])
 | .fn f fs cs=>do
  a0f (noRefL fs&&noRefL cs)
  a2a j (.agg [.fn f fs cs])
 | .mp ks vs=>do let t<-a99 x; a2a t .dead; a2a j (.agg [.mp ks vs])
 | v=>do a0f (oneAV v); a2a j (.agg [v])
 where
 oneAV:AV->Bool
  | .lit u=>u.oneCell'
  | .mp _ _=>false
  | .loan _=>false
  | _=>true
 noRefL:List AV->Bool
  | []=>true
  | .ref _ _ _ _::_=>false
  | .bor _ _ _ _ _::_=>false
  | .fn _ _ _::_=>false
  | .loan _::_=>false
  | _::ks=>noRefL ks
def b5z (j:Nat):Ev (List AV):=do
 let r<-b6v j
 match r with
 | .agg ks=>pure ks
 | _=> .fail
def setD (d:Option Nat) (v:AV):Ev Unit:=match d with
 | some d=>a2a d v
 | none=> .fail
def b1u (n:Nat) (zs:List AV):List AV:=(List.replicate n zs).flatten
def a52 (N:Nat):List (Nat×Nat×X)->Ev Unit
 | []=>pure ()
 | (off,sz,x)::rest=>do
  a3b x N
  let ks<-b5z N
  let zs<-b5z (N+1)
  a0f (decide (ks.length=sz)&&decide (off+sz<=zs.length))
  a2a N .dead
  a2a (N+1) (.agg (a0o zs off ks))
  a52 N rest
def okX (N:Nat):X->Bool
 | .t n=>decide (n < N)
 | _=>true
theorem a0y (st:St) (t:Nat) {v:AV} (h:nm v=false):st.put t v=st.set t v:=by
 unfold St.put St.set
 congr 1
 funext u
 simp [h]
section
variable {E:Env} {N:Nat} {st:St} {a:Act} {w:World} {val:Nat->Value} {ow:Nat->Option Nat}
theorem Sim.eval_t (h:Sim E N st a w val ow) {t:Nat} (ht:t < N):a.eval (.tmp t)=val t:=h.agree t ht
theorem a0i (h:Sim E N st a w val ow) {x:X} (hx:okX N x=true) {r:AV×Nat} {st':St} (hr:(a1k x).run st=some (r,st')) :
  st'=st/\R w (Mo E w ow) r.1 (QS w st val) (fun b=>∃ t,x= .t t/\ow b=some t) (a.eval x.op)/\(∀ t,x= .t t->r=(st.s t,st.ep t)/\t < N/\a.eval x.op=val t):=by
 cases x with
 | t n=>
  simp only [a1k,a07,Option.some.injEq,Prod.mk.injEq] at hr
  obtain ⟨rfl,rfl⟩:=hr
  have hn:n < N:=by simpa [okX] using hx
  refine ⟨rfl,?_,fun t ht=>by cases ht; exact ⟨rfl,hn,h.eval_t hn⟩⟩
  simp only [X.op,h.eval_t hn]
  exact a1l (fun b hb=>⟨n,rfl,hb⟩) (h.slots n)
 | c v=>
  simp only [a1k,Ev.run,Option.some.injEq,Prod.mk.injEq] at hr
  obtain ⟨rfl,rfl⟩:=hr
  exact ⟨rfl,by simp [R,X.op,Act.eval],fun t ht=>by cases ht⟩
 | nl sz=>
  simp only [a1k,Ev.run,Option.some.injEq,Prod.mk.injEq] at hr
  obtain ⟨rfl,rfl⟩:=hr
  exact ⟨rfl,by simp only [R,X.op,Act.eval]; left; exact ⟨by simp,by simp [RL],none,rfl⟩,fun t ht=>by cases ht⟩
 | g n=>
  simp only [a1k,Ev.run,Option.some.injEq,Prod.mk.injEq] at hr
  obtain ⟨rfl,rfl⟩:=hr
  exact ⟨rfl,by simp [R,X.op,Act.eval],fun t ht=>by cases ht⟩
 | f n=>
  simp only [a1k,Ev.run,Option.some.injEq,Prod.mk.injEq] at hr
  obtain ⟨rfl,rfl⟩:=hr
  exact ⟨rfl,by simp only [R,X.op,Act.eval]; exact ⟨#[],#[],rfl,by simp [RL],by simp [RL]⟩,fun t ht=>by cases ht⟩
theorem a1n {x:X} {t:Nat} {st st':St} (hr:(a99 x).run st=some (t,st')):st'=st/\x= .t t:=by
 cases x<;>simp [a99,Ev.run] at hr
 obtain ⟨rfl,rfl⟩:=hr
 exact ⟨rfl,rfl⟩
theorem a0a {α β:Type} {x:Ev α} {f:α->Ev β} {st:St} {b:β} {st':St} (h:(x >>=f).run st=some (b,st')):∃ a st1,x.run st=some (a,st1)/\(f a).run st1=some (b,st'):=by
 rw [Ev.run_bind] at h
 cases hx:x.run st with
 | none=>simp [hx] at h
 | some r=>exact ⟨r.1,r.2,rfl,by simpa [hx] using h⟩
theorem a0b {b:Bool} {st st':St} {u:Unit} (h:(a0f b).run st=some (u,st')):b=true/\st'=st:=by
 rw [a0d] at h
 cases b<;>simp at h
 exact ⟨rfl,h.symm⟩
theorem a0r {α:Type} {o:Option α} {st st':St} {a:α} (h:(a2r o).run st=some (a,st')):o=some a/\st'=st:=by
 rw [a0q] at h
 cases o<;>simp at h
 exact ⟨by rw [h.1],h.2.symm⟩
theorem a9l {t:Nat} {st st':St} {r:AV} (h:(b6v t).run st=some (r,st')):r=st.s t/\st'=st:=by
 rw [a38] at h
 simp only [Option.some.injEq,Prod.mk.injEq] at h
 exact ⟨h.1.symm,h.2.symm⟩
theorem a09 {t:Nat} {st st':St} {r:AV×Nat} (h:(a9g t).run st=some (r,st')):r=(st.s t,st.ep t)/\st'=st:=by
 rw [a07] at h
 simp only [Option.some.injEq,Prod.mk.injEq] at h
 exact ⟨h.1.symm,h.2.symm⟩
theorem b0n (h:Sim E N st a w val ow) {x:X} (hx:okX N x=true) {t o:Nat} {q:List Nat} {st':St} (hr:(b6h x).run st=some ((t,q,o),st')) :
  st'=st/\∀ k ks,a0c (st.s t) q=some k->a0l k=some ks->ks≠[]->∃ u b,a06 w (val t) q=some u/\a8f u=some b/\a.eval x.op= .pointer (some ⟨b,o,none⟩):=by
 unfold b6h at hr
 obtain ⟨r,st1,h1,h2⟩:=a0a hr
 obtain ⟨rfl,hR,ht⟩:=a0i h hx h1
 obtain ⟨v,e⟩:=r
 simp only at h2 hR
 cases v<;>simp only [Ev.run_fail,reduceCtorEq] at h2
 case var ks=>
  obtain ⟨t',st2,h3,h4⟩:=a0a h2
  obtain ⟨rfl,rfl⟩:=a1n h3
  simp only [Ev.run_pure,Option.some.injEq,Prod.mk.injEq] at h4
  obtain ⟨⟨rfl,rfl,rfl⟩,rfl⟩:=h4
  obtain ⟨h5,h6,h7⟩:=ht t' rfl
  refine ⟨rfl,fun k ks' _ _ _=> ?_⟩
  simp only [R] at hR
  obtain ⟨b,cur,T,fz,hv,_⟩:=hR
  exact ⟨val t',b,rfl,by rw [<-h7,hv]; rfl,hv⟩
 case ref t1 q1 o1 e1=>
  obtain ⟨r2,st2,h3,h4⟩:=a0a h2
  obtain ⟨rfl,rfl⟩:=a09 h3
  obtain ⟨_,st3,h5,h6⟩:=a0a h4
  obtain ⟨h7,rfl⟩:=a0b h5
  simp only [Ev.run_pure,Option.some.injEq,Prod.mk.injEq] at h6
  obtain ⟨⟨rfl,rfl,rfl⟩,rfl⟩:=h6
  simp only [R,QS] at hR
  exact ⟨rfl,fun k ks hk hrow hne=>hR.2 (by simpa using h7) k ks hk hrow hne⟩
theorem a00 (a:Option Addr):a.map (·.add 0)=a:=by cases a<;>simp [Addr.add]
theorem a3q (h:Sim E N st a w val ow) {x:X} (hx:okX N x=true) {t lo n:Nat} {q:List Nat} {st':St} (hr:(a5x x).run st=some ((t,q,lo,n),st')) :
  st'=st/\∀ sz n0 ks,a0c (st.s t) q=some (.own sz n0 ks)->lo+n<=n0->∃ a0 c0,a06 w (val t) q=some (.slice a0 n0 c0)/\a.eval x.op= .slice (if c0=lo then a0 else a0.map (·.add (lo*sz))) n (c0 - lo):=by
 unfold a5x at hr
 obtain ⟨r,st1,h1,h2⟩:=a0a hr
 obtain ⟨rfl,hR,ht⟩:=a0i h hx h1
 obtain ⟨v,e⟩:=r
 simp only at h2 hR
 cases v<;>simp only [Ev.run_fail,reduceCtorEq] at h2
 case own sz n ks=>
  obtain ⟨t',st2,h3,h4⟩:=a0a h2
  obtain ⟨rfl,rfl⟩:=a1n h3
  simp only [Ev.run_pure,Option.some.injEq,Prod.mk.injEq] at h4
  obtain ⟨⟨rfl,rfl,rfl,rfl⟩,rfl⟩:=h4
  obtain ⟨h5,h6,h7⟩:=ht t' rfl
  refine ⟨rfl,fun sz' n0 ks' hk _=> ?_⟩
  have hval:∃ a0 c0,a.eval (X.t t').op= .slice a0 n c0:=by
   simp only [R] at hR
   rcases hR with ⟨h0,_,a0,hv⟩ | ⟨b,c,cur,T,fz,hv,_⟩
   ·exact ⟨a0,0,by rw [h0]; exact hv⟩
   ·exact ⟨_,c,hv⟩
  obtain ⟨a0,c0,hv⟩:=hval
  simp only [a0c,Option.some.injEq] at hk
  injection h5 with h5 _
  rw [hk] at h5
  injection h5 with _ e2 _
  subst e2
  refine ⟨a0,c0,by rw [<-h7,hv]; rfl,?_⟩
  rw [hv,Nat.zero_mul,a00]
  simp
 case bor t1 q1 lo1 n1 e1=>
  obtain ⟨r2,st2,h3,h4⟩:=a0a h2
  obtain ⟨rfl,rfl⟩:=a09 h3
  obtain ⟨_,st3,h5,h6⟩:=a0a h4
  obtain ⟨h7,rfl⟩:=a0b h5
  simp only [Ev.run_pure,Option.some.injEq,Prod.mk.injEq] at h6
  obtain ⟨⟨rfl,rfl,rfl,rfl⟩,rfl⟩:=h6
  simp only [R,QS] at hR
  exact ⟨rfl,fun sz n0 ks hk hlo=>hR.2.1 (by simpa using h7) sz n0 ks hk hlo⟩
theorem a6c {M:BS} {Q:QR} {F:BS} {n0 lo n sz c0:Nat} {ks:List AV} {a0:Option Addr} (h:R w M (.sl n0 ks) Q F (.slice a0 n0 c0)) (hl:ks.length=n0*sz) (hlo:lo+n<=n0) :
  R w M (.sl n ((ks.drop (lo*sz)).take (n*sz))) noQ noB (.slice (if c0=lo then a0 else a0.map (·.add (lo*sz))) n (c0 - lo)):=by
 simp only [R] at h ⊢
 obtain ⟨a1,c1,hv,hc,vs,h1,hr,h2⟩:=h
 injection hv with e1 e2 e3
 subst e1 e3
 have hlen:=a0m hr
 refine ⟨_,_,rfl,by omega,(vs.drop (lo*sz)).take (n*sz),fun u hu=>h1 u (List.mem_of_mem_drop (List.mem_of_mem_take hu)),?_,?_⟩
 ·have e:ks=ks.take (lo*sz)++ks.drop (lo*sz):=(List.take_append_drop _ _).symm
  rw [e] at hr
  obtain ⟨v1,v2,hvs,F1,F2,g1,g2,_,r1,r2⟩:=a16 hr
  have l1:v1.length=lo*sz:=by
   rw [a0m r1,List.length_take,hl]
   exact Nat.min_eq_left (Nat.mul_le_mul_right _ (by omega))
  have hv2:vs.drop (lo*sz)=v2:=by rw [hvs,<-l1,List.drop_left]
  rw [hv2]
  have e2:ks.drop (lo*sz)=(ks.drop (lo*sz)).take (n*sz)++(ks.drop (lo*sz)).drop (n*sz):=(List.take_append_drop _ _).symm
  rw [e2] at r2
  obtain ⟨v3,v4,hvs2,F3,F4,g3,g4,_,r3,r4⟩:=a16 r2
  have l3:v3.length=n*sz:=by
   rw [a0m r3,List.length_take,List.length_drop,hl]
   refine Nat.min_eq_left ?_
   rw [<-Nat.sub_mul]
   exact Nat.mul_le_mul_right _ (by omega)
  have hv3:v2.take (n*sz)=v3:=by rw [hvs2,<-l3,List.take_left]
  rw [hv3]
  exact a1r (fun b hb=>g2 b (g3 b hb)) r3
 ·rcases h2 with h2 | ⟨b,o,ha,hb,hcell⟩
  ·exact .inl (by rw [h2]; simp)
  ·by_cases hn0:n*sz=0
   ·exact .inl (by rw [hn0]; simp)
   ·refine .inr ⟨b,o+lo*sz,?_,hb,fun i u hu=> ?_⟩
    ·have:n≠0:=fun he=>hn0 (by simp [he])
     have hne:c0≠lo:=by omega
     simp only [hne,if_false,ha,Option.map_some,a1u]
    ·rw [List.getElem?_take] at hu
     split at hu
     ·rw [List.getElem?_drop] at hu
      rw [Nat.add_assoc]
      exact hcell _ u hu
     ·simp at hu
theorem a3d {M:BS} {Q:QR} {F:BS} {sz n:Nat} {ks:List AV} {v:Value} (h:R w M (.own sz n ks) Q F v):ks.length=n*sz:=by
 simp only [R] at h
 rcases h with ⟨rfl,h1,_⟩ | ⟨b,c,cur,T,fz,hv,hb,hh,hz,h1,h2,h3,h4,hr⟩
 ·have h0:=a0m h1; simp only [List.length_nil] at h0; rw [List.eq_nil_of_length_eq_zero h0.symm]; simp
 ·have:n*sz<=cur.size:=by rw [h3]; exact Nat.mul_le_mul_right _ h1
  have hl:=a0m hr
  rw [List.length_take,Array.length_toList] at hl; omega
theorem a10:∀ ks:List AV,(a1b ks).length=ks.length
 | []=>rfl
 | k::ks=>by simp [a1b,a10 ks]
theorem a02:∀ (q:List Nat) {av k k':AV},a0c av q=some k->a0c (a0h av q k') q=some k'
 | [],av,k,k',_=>rfl
 | i::q,av,k,k',hk=>by
  simp only [a0c] at hk
  cases h0:a0l av with
  | none=>simp [h0] at hk
  | some ks=>
   simp only [h0] at hk
   cases hi:ks[i]? with
   | none=>simp [hi] at hk
   | some ki=>
    simp only [hi] at hk
    have hlt:i < ks.length:=(List.getElem?_eq_some_iff.1 hi).1
    simp only [a0h,h0,hi,a0c,(a4a av ks (ks.set i (a0h ki q k')) h0 (by simp)).2]
    simp only [List.getElem?_set,hlt,if_true]
    exact a02 q hk
theorem a0g {t:Nat} {v:AV} {st st':St} {u:Unit} (h:(a2a t v).run st=some (u,st')):st'=st.put t v:=by
 rw [a5l] at h; simp only [Option.some.injEq,Prod.mk.injEq] at h; exact h.2.symm
theorem a1c {t:Nat} {v:AV} {st st':St} {u:Unit} (h:(a9f t v).run st=some (u,st')):st'=st.set t v:=by
 rw [a9b] at h; simp only [Option.some.injEq,Prod.mk.injEq] at h; exact h.2.symm
structure Kept (N:Nat) (j:Nat) (st st':St) (val val':Nat->Value):Prop where
 val:∀ t,t≠j->val' t=val t
 scratch:∀ t,N<=t->t≠j->st'.s t=st.s t
theorem a8z {M:BS} {F:BS}:∀ {ks:List AV} {Q:QR} {vs:List Value},a3b.noRefL ks=true->RL w M ks Q F vs->RL w M ks noQ F vs
 | [],_,_,_,h=>by simp only [RL] at *; exact h
 | k::ks,Q,vs,hn,h=>by
  simp only [RL] at h ⊢
  obtain ⟨v,vs',hv,F1,F2,h1,h2,hd,hr,hrs⟩:=h
  have hk:a3b.noRefL ks=true/\R w M k noQ F1 v:=by
   cases k<;>simp only [a3b.noRefL,reduceCtorEq] at hn<;>exact ⟨hn,by simp only [R] at hr ⊢; try exact hr⟩
  exact ⟨v,vs',hv,F1,F2,h1,h2,hd,hk.2,a8z hk.1 hrs⟩
theorem d0i {v:Value} (h:v.oneCell'=true):C1 [v]:=fun u hu=>by rw [List.mem_singleton.1 hu]; exact h
theorem b4v {v:Value} (h:v.oneCell'=true):v.cells=#[v]:=by cases v<;>simp [Value.oneCell',Value.cells] at *
theorem b2e {M:BS} {Q:QR} {F:BS} {av:AV} {v:Value} (h:R w M av noQ F v) (h1:v.oneCell'=true):R w M (.agg [av]) Q F (.agg v.cells):=by
 rw [b4v h1]
 simp only [R,RL]
 exact ⟨_,rfl,d0i h1,v,[],rfl,F,noB,fun _ h=>h,fun _ h=>h.elim,fun _ _ h=>h,h,rfl⟩
theorem b2u (st:St) {t j:Nat} (htj:t≠j) (x av:AV) (h:nm av=false):(st.put t .dead).put j av=((st.set t x).set j av).set t .dead:=by
 rw [a0y _ t (by simp [a0l]),a0y _ j h]
 unfold St.set
 congr 1
 funext u
 by_cases hu:u=t
 ·subst hu; simp [htj]
 ·simp [hu]
theorem a8d (h:Sim E N st a w val ow) {x:X} (hx:okX N x=true) {j:Nat} (hj:N=j) {u:Unit} {st':St} (hr:(a3b x j).run st=some (u,st')) :
  ∃ val' ow' ks,Sim E N st' a w val' ow'/\Kept N j st st' val val'/\st'.s j= .agg ks/\val' j= .agg (a.eval x.op).cells:=by
 unfold a3b at hr
 obtain ⟨r,st1,h1,h2⟩:=a0a hr
 obtain ⟨rfl,hR,ht⟩:=a0i h hx h1
 obtain ⟨v,e⟩:=r
 have lay:∀ av:AV,R w (Mo E w ow) av noQ noB (a.eval x.op)->(a.eval x.op).oneCell'=true->(a2a j (.agg [av])).run st1=some (u,st')->
   ∃ val' ow' ks,Sim E N st' a w val' ow'/\Kept N j st1 st' val val'/\st'.s j= .agg ks/\val' j= .agg (a.eval x.op).cells:=by
  intro av hav h1c hp
  have:=a0g hp
  subst this
  rw [a0y _ _ (by simp [a0l])]
  refine ⟨_,_,[av],h.layd (j:=j) (Q:=noQ) (fun hlt=>by omega) (fun _ _ h=>h.elim) (b2e hav h1c) (by simp [a0l]),⟨fun t ht=>by simp [a0u,ht],fun t _ ht=>by simp [ht]⟩,by simp,by simp [a0u]⟩
 cases v<;>simp only [Ev.run_fail,reduceCtorEq] at h2
 case lit u0=>
  obtain ⟨_,st2,h3,h4⟩:=a0a h2
  obtain ⟨h5,rfl⟩:=a0b h3
  simp only [R] at hR
  simp only [a3b.oneAV] at h5
  exact lay (.lit u0) (by simp only [R]; exact hR) (by rw [hR]; exact h5) h4
 case sl n ks=>
  obtain ⟨_,st2,h3,h4⟩:=a0a h2
  obtain ⟨h5,rfl⟩:=a0b h3
  refine lay (.sl n ks) (by simp only [R] at hR ⊢; exact hR) ?_ h4
  simp only [R] at hR
  obtain ⟨a0,c,hv,_⟩:=hR
  rw [hv]; rfl
 case ip ks off=>
  obtain ⟨_,st2,h3,h4⟩:=a0a h2
  obtain ⟨h5,rfl⟩:=a0b h3
  refine lay (.ip ks off) (by simp only [R] at hR ⊢; exact hR) ?_ h4
  simp only [R] at hR
  obtain ⟨b,o,vs,hv,_⟩:=hR
  rw [hv]; rfl
 case own sz n ks=>
  have h1c:(a.eval x.op).oneCell'=true:=by
   simp only [R] at hR
   rcases hR with ⟨_,_,a0,hv⟩ | ⟨b,c,cur,T,fz,hv,_⟩<;>rw [hv]<;>rfl
  cases x with
  | t t=>
   simp only at h2
   obtain ⟨_,st2,h3,h4⟩:=a0a h2
   have:=a0g h3
   subst this
   have:=a0g h4
   subst this
   obtain ⟨h5,h6,h7⟩:=ht t rfl
   injection h5 with h5 _
   rw [a0y _ t (by simp [a0l])]
   refine ⟨_,_,[.own sz n ks],h.pass (t:=t) (j:=j) (by omega) (av:= .agg [.own sz n ks]) (v:= .agg (a.eval (X.t t).op).cells) (fun hlt=>by omega) (fun Q hQ=> ?_),⟨fun u hu=>by simp [a0u,hu],fun u hu huj=> ?_⟩,by simp,by simp [a0u]⟩
   ·refine b2e ?_ h1c
    have:=h.slots t
    rw [<-h5,<-h7] at this
    simp only [R] at this ⊢
    exact this
   ·simp [huj,show u≠t by omega]
  | c v=>simp [a1k,Ev.run] at h1
  | nl sz'=>
   simp only at h2
   refine lay (.own sz n ks) ?_ h1c h2
   simp only [R] at hR ⊢
   rcases hR with ⟨h0,h1',a0,hv⟩ | ⟨b,c,cur,T,fz,hv,⟨t,ht',_⟩,_⟩
   ·exact .inl ⟨h0,h1',a0,hv⟩
   ·cases ht'
  | g n=>simp [a1k,Ev.run] at h1
  | f n=>simp [a1k,Ev.run] at h1
 case loan ks=>
  obtain ⟨_,st2,h3,h4⟩:=a0a h2
  obtain ⟨h5,_⟩:=a0b h3
  simp [a3b.oneAV] at h5
 case mp ks vs=>
  have h1c:(a.eval x.op).oneCell'=true:=by
   simp only [R] at hR
   obtain ⟨b,es,ck,hv,_⟩:=hR
   rw [hv]; rfl
  obtain ⟨t,st2,h3,h4⟩:=a0a h2
  obtain ⟨rfl,rfl⟩:=a1n h3
  obtain ⟨_,st3,h5,h6⟩:=a0a h4
  have:=a0g h5
  subst this
  have:=a0g h6
  subst this
  obtain ⟨h7,h8,h9⟩:=ht t rfl
  injection h7 with h7 _
  rw [a0y _ t (by simp)]
  refine ⟨_,_,[.mp ks vs],h.pass (t:=t) (j:=j) (by omega) (av:= .agg [.mp ks vs]) (v:= .agg (a.eval (X.t t).op).cells) (fun hlt=>by omega) (fun Q hQ=> ?_),⟨fun u hu=>by simp [a0u,hu],fun u hu huj=> ?_⟩,by simp,by simp [a0u]⟩
  ·refine b2e ?_ h1c
   have:=h.slots t
   rw [<-h7,<-h9] at this
   simp only [R] at this ⊢
   exact this
  ·simp [huj,show u≠t by omega]
 case var ks=>
  obtain ⟨t,st2,h3,h4⟩:=a0a h2
  obtain ⟨rfl,rfl⟩:=a1n h3
  obtain ⟨_,st3,h5,h6⟩:=a0a h4
  have:=a0g h5
  subst this
  have:=a0g h6
  subst this
  obtain ⟨h7,h8,h9⟩:=ht t rfl
  injection h7 with h7 _
  have hf:=h.freeze t
  rw [b2u _ (t:=t) (j:=j) (by omega) _ (.agg [frz (.var ks)]) (by simp [a0l])]
  have h1c:(a.eval (X.t t).op).oneCell'=true:=by
   simp only [R] at hR
   obtain ⟨b,cur,T,fz,hv,_⟩:=hR
   rw [hv]; rfl
  have hl:=hf.layd (j:=j) (Q:=noQ) (av:= .agg [frz (.var ks)]) (v:= .agg (a.eval (X.t t).op).cells) (fun hlt=>by omega) (fun _ _ h=>h.elim) (b2e (by
   have:=hf.slots t
   simp only [St.set_s,if_true,<-h7] at this
   rw [h9]
   simp only [frz,R] at this ⊢
   exact this) h1c) (by simp [a0l])
  exact ⟨_,_,[frz (.var ks)],hl.drop t,⟨fun u hu=>by simp [a0u,hu],fun u hu huj=>by simp [huj,show u≠t by omega]⟩,by simp [show j≠t by omega],by simp [a0u]⟩
 case agg ks=>
  obtain ⟨t,st2,h3,h4⟩:=a0a h2
  obtain ⟨rfl,rfl⟩:=a1n h3
  obtain ⟨_,st3,h5,h6⟩:=a0a h4
  have:=a0g h5
  subst this
  have:=a0g h6
  subst this
  obtain ⟨h7,h8,h9⟩:=ht t rfl
  injection h7 with h7 _
  rw [a0y _ t (by simp [a0l])]
  have hcells:(.agg (a.eval (X.t t).op).cells:Value)=a.eval (X.t t).op:=by
   simp only [R] at hR
   obtain ⟨arr,hv,_⟩:=hR
   rw [hv]; rfl
  refine ⟨_,_,ks,h.pass (t:=t) (j:=j) (by omega) (av:= .agg ks) (v:= .agg (a.eval (X.t t).op).cells) (fun hlt=>by omega) (fun Q hQ=> ?_),⟨fun u hu=>by simp [a0u,hu],fun u hu huj=>by simp [huj,show u≠t by omega]⟩,by simp,by simp [a0u]⟩
  have:=h.slots t
  rw [<-h7,<-h9,<-hcells] at this
  simp only [R] at this ⊢
  exact this
 case ifc T k=>
  obtain ⟨t,st2,h3,h4⟩:=a0a h2
  obtain ⟨rfl,rfl⟩:=a1n h3
  obtain ⟨_,st3,h5,h6⟩:=a0a h4
  have:=a0g h5
  subst this
  have:=a0g h6
  subst this
  obtain ⟨h7,h8,h9⟩:=ht t rfl
  injection h7 with h7 _
  have hf:=h.freeze t
  rw [b2u _ (t:=t) (j:=j) (by omega) _ (.agg [frz (.ifc T k)]) (by simp [a0l])]
  have h1c:(a.eval (X.t t).op).oneCell'=true:=by
   simp only [R] at hR
   obtain ⟨u,hv,_⟩:=hR
   rw [hv]; rfl
  have hl:=hf.layd (j:=j) (Q:=noQ) (av:= .agg [frz (.ifc T k)]) (v:= .agg (a.eval (X.t t).op).cells) (fun hlt=>by omega) (fun _ _ h=>h.elim) (b2e (by
   have:=b6u (w:=w) (M:=Mo E w ow) (M':=Mo E w (fun b=>if ow b=some t then none else ow b)) (fun b hb=>⟨by simp [hb.1],hb.2⟩) (.ifc T k) (Q:=noQ) (F:=fun b=>ow b=some t) (v:=val t) (fun b hb=>by
    have:=h.owned hb
    exact ⟨by simp [hb],this.1,.inr this.2⟩) (by
     have:=h.slots t
     rw [<-h7] at this
     simp only [R] at this ⊢
     exact this)
   rw [h9]
   exact this) h1c) (by simp [a0l])
  exact ⟨_,_,[frz (.ifc T k)],hl.drop t,⟨fun u hu=>by simp [a0u,hu],fun u hu huj=>by simp [huj,show u≠t by omega]⟩,by simp [show j≠t by omega],by simp [a0u]⟩
 case fn f fs cs=>
  obtain ⟨_,st2,h3,h4⟩:=a0a h2
  obtain ⟨h5,rfl⟩:=a0b h3
  simp only [Bool.and_eq_true] at h5
  simp only [R] at hR
  obtain ⟨a1,a2,hv,r1,r2⟩:=hR
  refine lay (.fn f fs cs) ?_ (by rw [hv]; rfl) h4
  simp only [R]
  exact ⟨a1,a2,hv,a8z h5.1 r1,a8z h5.2 r2⟩
 case bor t q lo n e1=>
  obtain ⟨r2,st2,h3,h4⟩:=a0a h2
  obtain ⟨rfl,rfl⟩:=a09 h3
  obtain ⟨_,st3,h5,h6⟩:=a0a h4
  obtain ⟨h7,rfl⟩:=a0b h5
  obtain ⟨k,st4,h8,h9⟩:=a0a h6
  obtain ⟨hk,rfl⟩:=a0r h8
  simp only at hk
  cases k<;>simp only [Ev.run_fail,reduceCtorEq] at h9
  case own sz n0 ks=>
   obtain ⟨_,st5,g1,g2⟩:=a0a h9
   obtain ⟨g3,rfl⟩:=a0b g1
   obtain ⟨_,st6,g4,g5⟩:=a0a g2
   have:=a1c g4
   subst this
   have:=a0g g5
   subst this
   simp only [Bool.and_eq_true,decide_eq_true_eq] at g3
   have hlo:lo+n<=n0:=g3.1
   simp only [R,QS] at hR
   obtain ⟨a0,c0,hv0,hv⟩:=hR.2.1 (by simpa using h7) sz n0 ks hk hlo
   obtain ⟨ow',hf⟩:=h.freezeNode hk
   have hnode:=a02 q (k':=frz (.own sz n0 ks)) hk
   obtain ⟨u1,hu1,Fk,G,_,_,_,hr1,_⟩:=a32 q (by have:=hf.slots t; simp only [St.set_s,if_true] at this; exact this) hnode
   rw [hv0] at hu1
   injection hu1 with hu1
   have hlen:ks.length=n0*sz:=by
    obtain ⟨u2,hu2,Fk2,G2,_,_,_,hr2,_⟩:=a32 q (h.slots t) hk
    exact a3d hr2
   subst hu1
   have hsub:=a6c (w:=w) (M:=Mo E w ow') (lo:=lo) (n:=n) (sz:=sz) (ks:=a1b ks) (n0:=n0) (a0:=a0) (c0:=c0) (Q:=_) (F:=Fk) (by rw [frz] at hr1; exact hr1) (by rw [a10,hlen]) hlo
   rw [<-hv] at hsub
   rw [a0y _ j (by simp [a0l])]
   have h1c:(a.eval x.op).oneCell'=true:=by rw [hv]; rfl
   refine ⟨_,_,[.sl n (((a1b ks).drop (lo*sz)).take (n*sz))],hf.layd (j:=j) (Q:=noQ) (fun hlt=>by omega) (fun _ _ h=>h.elim) (b2e hsub h1c) (by simp [a0l]),⟨fun u hu=>by simp [a0u,hu],fun u hu huj=> ?_⟩,by simp,by simp [a0u]⟩
   have hut:u≠t:=by have:=g3.2; omega
   simp [huj,hut]
end
def eqV:Value->Value->Bool
 | .bool a,.bool b=>a==b
 | .int j a,.int k b=>j==k&&a==b
 | .string a,.string b=>decide (a=b)
 | .pointer none,.pointer none=>true
 | .slice none a b,.slice none c d=>a==c&&b==d
 | .map none,.map none=>true
 | .nilIface,.nilIface=>true
 | .nilFunc,.nilFunc=>true
 | _,_=>false
theorem c0f {a b:Value} (h:eqV a b=true):a=b:=by
 unfold eqV at h
 split at h<;>simp_all
def c78:List Value->List Value->Bool
 | [],[]=>true
 | a::as,b::bs=>eqV a b&&c78 as bs
 | _,_=>false
theorem b2j:∀ {as bs:List Value},c78 as bs=true->as=bs
 | [],[],_=>rfl
 | a::as,b::bs,h=>by simp only [c78,Bool.and_eq_true] at h; rw [c0f h.1,b2j h.2]
 | [],_::_,h=>by simp [c78] at h
 | _::_,[],h=>by simp [c78] at h
def a4b:List AV->Option (List Value)
 | []=>some []
 | .lit v::ks=>if v.oneCell' then (a4b ks).map (v::·) else none
 | .own _ 0 []::ks=>(a4b ks).map (.slice none 0 0::·)
 | .sl 0 []::ks=>(a4b ks).map (.slice none 0 0::·)
 | _=>none
theorem a6s {w:World} {M:BS}:∀ {ks:List AV} {vs:List Value},a4b ks=some vs->RL w M ks noQ noB vs/\C1 vs
 | [],vs,h=>by simp only [a4b,Option.some.injEq] at h; subst h; exact ⟨by simp only [RL],fun _ h=>by simp at h⟩
 | .lit v::ks,vs,h=>by
  simp only [a4b] at h
  split at h
  ·rename_i h1
   cases h2:a4b ks with
   | none=>simp [h2] at h
   | some us=>
    simp only [h2,Option.map_some,Option.some.injEq] at h
    subst h
    obtain ⟨r1,r2⟩:=a6s (w:=w) (M:=M) h2
    refine ⟨?_,fun u hu=> ?_⟩
    ·simp only [RL,R]; exact ⟨v,us,rfl,noB,noB,fun _ h=>h,fun _ h=>h,fun _ _ h=>h,rfl,r1⟩
    ·rcases List.mem_cons.1 hu with rfl | hu
     ·exact h1
     ·exact r2 u hu
  ·cases h
 | .own sz 0 []::ks,vs,h=>by
  simp only [a4b] at h
  cases h2:a4b ks with
  | none=>simp [h2] at h
  | some us=>
   simp only [h2,Option.map_some,Option.some.injEq] at h
   subst h
   obtain ⟨r1,r2⟩:=a6s (w:=w) (M:=M) h2
   refine ⟨?_,fun u hu=> ?_⟩
   ·simp only [RL,R]
    exact ⟨_,us,rfl,noB,noB,fun _ h=>h,fun _ h=>h,fun _ _ h=>h,.inl (by simp),r1⟩
   ·rcases List.mem_cons.1 hu with rfl | hu
    ·rfl
    ·exact r2 u hu
 | .sl 0 []::ks,vs,h=>by
  simp only [a4b] at h
  cases h2:a4b ks with
  | none=>simp [h2] at h
  | some us=>
   simp only [h2,Option.map_some,Option.some.injEq] at h
   subst h
   obtain ⟨r1,r2⟩:=a6s (w:=w) (M:=M) h2
   refine ⟨?_,fun u hu=> ?_⟩
   ·simp only [RL,R]
    exact ⟨_,us,rfl,noB,noB,fun _ h=>h,fun _ h=>h,fun _ _ h=>h,⟨none,0,rfl,Nat.le_refl _,[],fun _ h=>by simp at h,rfl,.inl rfl⟩,r1⟩
   ·rcases List.mem_cons.1 hu with rfl | hu
    ·rfl
    ·exact r2 u hu
 | .own _ 0 (_::_)::_,vs,h=>by simp [a4b] at h
 | .sl 0 (_::_)::_,vs,h=>by simp [a4b] at h
 | .own _ (_+1) _::_,vs,h=>by simp [a4b] at h
 | .dead::_,vs,h=>by simp [a4b] at h
 | .sl (_+1) _::_,vs,h=>by simp [a4b] at h
 | .ip _ _::_,vs,h=>by simp [a4b] at h
 | .var _::_,vs,h=>by simp [a4b] at h
 | .agg _::_,vs,h=>by simp [a4b] at h
 | .tup _::_,vs,h=>by simp [a4b] at h
 | .ifc _ _::_,vs,h=>by simp [a4b] at h
 | .fn _ _ _::_,vs,h=>by simp [a4b] at h
 | .ref _ _ _ _::_,vs,h=>by simp [a4b] at h
 | .bor _ _ _ _ _::_,vs,h=>by simp [a4b] at h
def a55 {α:Type}:Sem α->Option α
 | .pure a=>some a
 | _=>none
theorem a4t {α:Type} {s:Sem α} {a:α} (h:a55 s=some a) (P:Program) (w:World):s.run P w= .ok a w:=by
 cases s<;>simp [a55] at h
 subst h; rfl
def a1f (b:BinOp) (x y:Value):Option Value:=
 match b,x,y with
 | .shl,.int k a,.int yk c=>a55 (Op.shift .shl k a yk c)
 | .shr,.int k a,.int yk c=>a55 (Op.shift .shr k a yk c)
 | b,.int k a,.int k' c=>if k=k' then
   (match b with
   | .add | .sub | .mul=>a55 (Op.intArith b k a c)
   | .quo | .rem=>a55 (Op.intDiv b k a c)
   | .and | .or | .xor | .andNot=>a55 (Op.intBits b k a c)
   | _=>a55 (Op.intCmp b a c)) else none
 | .add,.string _,.string _=>none
 | b,.string a,.string c=>a55 (Op.stringOp b a c)
 | _,_,_=>none
def c0d (kd:Nat) (x y:AV):Option Bool:=
 match kd,x,y with
 | 1,.lit (.bool a),.lit (.bool b)=>some (a==b)
 | 2,.lit (.iface _ _),.lit .nilIface=>some false
 | 2,.ifc _ _,.lit .nilIface=>some false
 | 2,.lit .nilIface,.lit .nilIface=>some true
 | 3,.ip _ _,.lit (.pointer none)=>some false
 | 3,.lit (.pointer (some _)),.lit (.pointer none)=>some false
 | 3,.lit (.pointer none),.lit (.pointer none)=>some true
 | _,_,_=>none
def b64 (b:BinOp) (x y:AV):Option AV:=
 match x,y with
 | .lit u,.lit v=>(a1f b u v).map .lit
 | _,_=>none
def a2e (b:BinOp) (kd:Nat) (x y:AV):Option AV:=
 if kd=0 then b64 b x y else
 match b with
 | .eql=>(c0d kd x y).map fun r=> .lit (.bool r)
 | .neq=>(c0d kd x y).map fun r=> .lit (.bool (!r))
 | _=>none
def b8d:Value->AV->AV->Option AV
 | .bool c,.lit u,.lit v=>some (.lit (if c then u else v))
 | .bool true,.lit u,_=>some (.lit u)
 | .bool false,_,.lit v=>some (.lit v)
 | _,_,_=>none
def mvE (x:X) (d:Option Nat):Ev Unit:=do
 let r<-a1k x
 match r.1 with
 | .own _ n _=>match x with
  | .t t=>setD d (.bor t [] 0 n r.2)
  | _=>setD d (.sl 0 [])
 | .var _=>do let t<-a99 x; setD d (.ref t [] 0 r.2)
 | .dead=> .fail
 | v=>if a0j v then setD d v else do
  let t<-a99 x
  a9f t (frz v)
  setD d (frz v)
def a26 (N:Nat) (d:Option Nat) (v:AV):Ev Unit:=do
 a2a N v
 a2a N .dead
 setD d v
def a66 (N:Nat) (d:Option Nat) (x:X) (v:AV):Ev Unit:=match x with
 | .t t=>if a0j v then setD d v else do a2a t .dead; a26 N d v
 | _=>if a0j v then setD d v else a26 N d v
def c60 (N:Nat) (x:X) (d:Option Nat):Ev Unit:=do
 let r<-a1k x
 match r.1 with
 | .dead=> .fail
 | .bor t q lo n e=>do
  let r2<-a9g t
  a0f (e==r2.2&&decide (t < N))
  let k<-a2r (a0c r2.1 q)
  match k with
  | .own sz n0 ks=>do
   a0f (decide (lo+n<=n0))
   if q.isEmpty&&lo==0 then do
    a2a t .dead
    a26 N d (.own sz n (ks.take (n*sz)))
   else do
    a9f t (a0h r2.1 q (frz k))
    setD d (.sl n (((a1b ks).drop (lo*sz)).take (n*sz)))
  | _=> .fail
 | v=>a66 N d x v
def b8h (x:X):Ev (Nat×List Nat×Nat×AV×Nat×List AV):=do
 let (t,q,o)<-b6h x
 let v<-a9g t
 let ks<-a2r (a2u v.1 q)
 a0f (decide (o < ks.length))
 pure (t,q,o,v.1,v.2,ks)
def b38 (x:X):Ev Value:=do
 let r<-a1k x
 match r.1 with
 | .lit v=>pure v
 | _=> .fail
def b76 (x:X):Ev Int:=do
 let v<-b38 x
 match v with
 | .int _ n=>pure n
 | _=> .fail
def c5s (x:X):Ev Int:=do
 let v<-b38 x
 match v with
 | .int .i64 n=>pure n
 | _=> .fail
def a2i (x:Option X) (dflt:Int):Ev Int:=match x with
 | some x=>b76 x
 | none=>pure dflt
def b7q (x:X) (N:Nat):Ev Unit:=do
 let r<-a1k x
 match r.1 with
 | .own sz n ks=>match x with
  | .t t=>do a2a t .dead; a2a N (.own sz n ks)
  | _=>a2a N (.own sz n ks)
 | .bor t q lo n e=>do
  let r2<-a9g t
  a0f (e==r2.2&&lo==0&&decide (t < N))
  let k<-a2r (a0c r2.1 q)
  match k with
  | .own sz n0 ks=>do
   a0f (decide (n<=n0))
   a9f t (a0h r2.1 q .dead)
   a2a N (.own sz n (ks.take (n*sz)))
  | _=> .fail
 | _=> .fail
def d0a (y:X) (N:Nat):Ev Unit:=do
 let r<-a1k y
 match r.1 with
 | .own sz n ks=>match y with
  | .t t=>do a2a t .dead; a2a (N+1) (.own sz n ks)
  | _=>a2a (N+1) (.own sz n ks)
 | .sl n ks=>a2a (N+1) (.sl n ks)
 | .bor t q lo n e=>do
  let r2<-a9g t
  a0f (e==r2.2&&decide (t < N))
  let k<-a2r (a0c r2.1 q)
  match k with
  | .own sz n0 ks=>do
   a0f (decide (lo+n<=n0))
   a9f t (a0h r2.1 q (frz k))
   a2a (N+1) (.sl n (((a1b ks).drop (lo*sz)).take (n*sz)))
  | _=> .fail
 | _=> .fail
def a68:List X->Ev Unit
 | []=>pure ()
 | x::xs=>do
  let r<-a1k x
  match r.1 with
  | .var ks=>do
   let t<-a99 x
   a9f t (frz (.var ks))
   a68 xs
  | _=>a68 xs
def b0b:List X->Ev (List AV)
 | []=>pure []
 | x::xs=>do
  let r<-a1k x
  match r.1 with
  | .var _=>do
   let t<-a99 x
   let ks<-b0b xs
   pure (.ref t [] 0 r.2::ks)
  | .own _ _ _ | .dead | .agg _ | .tup _ | .ifc _ _ | .bor _ _ _ _ _ | .mp _ _ | .loan _=> .fail
  | k=>do
   let ks<-b0b xs
   pure (k::ks)
def a5z:List AV->Option (List Int)
 | []=>some []
 | .lit (.int .u8 n)::ks=>(a5z ks).map fun ns=>n::ns
 | _=>none
def bytesOf (ks:List AV):Option ByteArray:=(a5z ks).map fun ns=>ns.foldl (fun r n=>r.push (UInt8.ofNat n.toNat)) ByteArray.empty
def a8w (d:Option Nat) (t:Nat) (q:List Nat) (o e:Nat) (k:AV):Ev Unit:=match k with
 | .own _ n _=>setD d (.bor t (q++[o]) 0 n e)
 | .mp _ _=>setD d (.bor t (q++[o]) 0 0 e)
 | k=>do a0f (a0j k); setD d k
def b46 (d:Option Nat) (s:Option Nat) (x:X):Ev Unit:=do
 let (t,q,o,v,e,ks)<-b8h x
 match s with
 | none=>do
  let k<-a2r ks[o]?
  a8w d t q o e k
 | some s=>do
  a0f (decide (o+s<=ks.length))
  if a0k ((ks.drop o).take s) then setD d (.agg ((ks.drop o).take s)) else do
   a9f t (setRow v q (a0o ks o (a1b ((ks.drop o).take s))))
   setD d (.agg (a1b ((ks.drop o).take s)))
def c52 (x:X):Ev (Nat×List Nat×AV×List Int×List AV):=do
 let r<-a1k x
 match r.1 with
 | .bor t q _ _ e=>do
  let r2<-a9g t
  a0f (e==r2.2)
  let k<-a2r (a0c r2.1 q)
  match k with
  | .mp keys vals=>pure (t,q,r2.1,keys,vals)
  | _=> .fail
 | _=> .fail
def a36:List Int->List AV->Int->Option AV
 | k::ks,v::vs,n=>if k=n then some v else a36 ks vs n
 | _,_,_=>none
def a28:List Int->List AV->Int->AV->List Int×List AV
 | k::ks,v::vs,n,x=>if k=n then (k::ks,x::vs) else (k::(a28 ks vs n x).1,v::(a28 ks vs n x).2)
 | _,_,n,x=>([n],[x])
def a3o:AV->Bool
 | .lit _=>true
 | .sl _ _=>true
 | .ip _ _=>true
 | _=>false
def c20 (t:Nat) (q:List Nat) (e o:Nat):AV->Option AV
 | .own _ n _=>some (.bor t (q++[o]) 0 n e)
 | k=>if a0j k&&a3o k then some k else none
def b11 (t:Nat) (q:List Nat) (e:Nat):Nat->List AV->Option (List AV)
 | _,[]=>some []
 | o,k::ks=>match c20 t q e o k,b11 t q e (o+1) ks with
  | some a,some b=>some (a::b)
  | _,_=>none
def b03:AV->Bool
 | .agg ks=>ks.all a3o
 | v=>a3o v
def a0w (G:GG) (N:Nat) (d:Option Nat):IOp->Ev Unit
 | .mv x=>mvE x d
 | .asg x=>c60 N x d
 | .mva x=>c60 N x d
 | .mvf x=>mvE x d
 | .pick c x y=>do
  let rc<-b38 c
  let ra<-a1k x
  let rb<-a1k y
  let v<-a2r (b8d rc ra.1 rb.1)
  setD d v
 | .alloc _ zs=>a26 N d (.var zs)
 | .box _ sz x=>do
  a3b x N
  let ks<-b5z N
  a0f (decide (ks.length=sz))
  a26 N d (.var ks)
 | .build _ zs parts=>do
  a2a (N+1) (.agg zs)
  a52 N (parts.map fun p=>p.2)
  let ks<-b5z (N+1)
  a2a (N+1) .dead
  setD d (.agg ks)
 | .bslice _ _ sz len zs parts=>do
  a2a (N+1) (.agg (b1u len zs))
  a52 N (parts.map fun p=>(p.1*sz,sz,p.2))
  let ks<-b5z (N+1)
  a26 (N+1) d (.own sz len ks)
 | .load _ s x=>do
  let r<-a1k x
  match r.1,s with
  | .lit (.pointer (some ⟨g,0,none⟩)),none=>do
   let v<-a2r (G g)
   setD d (.lit v)
  | .ip ks off,none=>do
   let k<-a2r ks[off]?
   a0f (a0j k)
   setD d k
  | .ip ks off,some s=>do
   a0f (decide (off+s<=ks.length)&&a0k ((ks.drop off).take s))
   setD d (.agg ((ks.drop off).take s))
  | _,s=>b46 d s x
 | .lmv _ s x=>do
  let (t,q,o)<-b6h x
  let v<-a9g t
  match v.1 with
  | .var ks=>do
   a0f (q.isEmpty&&o==0&&decide (t < N)&&decide (ks.length=s)&&decide (0 < s))
   a9f t .dead
   a26 N d (.agg ks)
  | _=> .fail
 | .store _ s x y=>do
  a0f d.isNone
  a3b y N
  let (t,q,o,v,e,ks)<-b8h x
  let cs<-b5z N
  a0f (decide (cs.length=s)&&decide (0 < s)&&decide (t < N)&&decide (o+s<=ks.length))
  a2a N .dead
  if a0k cs then a9f t (setRow v q (a0o ks o cs)) else do
   b8y t q o s
   a9f t (setRow v q (a0o ks o cs))
 | .stf _ s x y=>do
  let u<-a99 y
  let r<-a9g u
  a9f u (frz r.1)
  a0f d.isNone
  a3b y N
  let (t,q,o,v,e,ks)<-b8h x
  let cs<-b5z N
  a0f (decide (cs.length=s)&&decide (0 < s)&&decide (t < N)&&decide (o+s<=ks.length))
  a2a N .dead
  if a0k cs then a9f t (setRow v q (a0o ks o cs)) else do
   b8y t q o s
   a9f t (setRow v q (a0o ks o cs))
 | .nilck x=>do
  let r<-a1k x
  match r.1 with
  | .ip ks o=>setD d (.ip ks o)
  | .fn f fs cs=>setD d (.fn f fs cs)
  | _=>do
   let (t,q,o,v,e,ks)<-b8h x
   setD d (.ref t q o e)
 | .bin b _ kd x y _=>do
  let rx<-a1k x
  let ry<-a1k y
  let v<-a2r (a2e b kd rx.1 ry.1)
  setD d v
 | .eqs b _ tp _ x y _=>do
  let u<-b38 x
  let v<-b38 y
  match u,v with
  | .iface t1 (.pointer (some a)),.iface t2 (.pointer (some c))=>do
   a0f (t1==tp&&t2==tp&&(decide (a=c)||((G a.block).isSome&&(G c.block).isSome)))
   match b with
   | .eql=>setD d (.lit (.bool (decide (a=c))))
   | .neq=>setD d (.lit (.bool (!(decide (a=c)))))
   | _=> .fail
  | _,_=> .fail
 | .un u _ x=>do
  let v<-b38 x
  let r<-a2r (a55 (Op.unary u v))
  setD d (.lit r)
 | .conv _ _ (.int k) x=>do
  let v<-b38 x
  match v with
  | .int _ n=>setD d (.lit (.int k (k.wrap n)))
  | _=> .fail
 | .conv _ _ .str x=>do
  let r<-a1k x
  match r.1 with
  | .sl n ks=>do
   a0f (decide (ks.length=n))
   let s<-a2r (bytesOf ks)
   setD d (.lit (.string s))
  | _=>do
   let (t,q,lo,n)<-a5x x
   let v<-a9g t
   let k<-a2r (a0c v.1 q)
   match k with
   | .own sz n0 ks=>do
    a0f (sz==1&&decide (lo+n<=n0))
    let s<-a2r (bytesOf ((ks.drop lo).take n))
    setD d (.lit (.string s))
   | _=> .fail
 | .conv _ _ .keep x=>do
  b7q x N
  let r<-a9g N
  match r.1 with
  | .own sz n ks=>do
   a0f (sz==1&&decide (0 < n))
   a26 N d (.own sz n ks)
  | _=> .fail
 | .mki T x=>do
  let r<-a1k x
  match r.1 with
  | .lit v=>setD d (.lit (.iface T v))
  | .var ks=>do
   let t<-a99 x
   a9f t (frz (.var ks))
   setD d (.ifc T (frz (.var ks)))
  | .ip ks o=>setD d (.ifc T (.ip ks o))
  | _=> .fail
 | .mkz f fs cs=>do
  a68 cs
  let as<-b0b fs
  let bs<-b0b cs
  setD d (.fn f as bs)
 | .mkf f fs cs=>do
  let as<-b0b fs
  let bs<-b0b cs
  setD d (.fn f as bs)
 | .mks _ _ sz by_ zs l c=>do
  let n<-b76 l
  let m<-b76 c
  a0f (decide (0<=n)&&decide (n<=m)&&decide (m*by_<=140737488355328)&&decide (m<=140737488355328))
  a26 N d (.own sz n.toNat (b1u n.toNat zs))
 | .slice _ sz x lo hi mx=>do
  let r<-a1k x
  match r.1 with
  | .lit (.string s)=>do
   let l<-a2i lo 0
   let h<-a2i hi s.size
   a0f (decide (0<=l)&&decide (l<=h)&&decide (h<=s.size)&&mx.isNone&&sz==0)
   setD d (.lit (.string (s.extract l.toNat h.toNat)))
  | .sl n ks=>do
   a0f (decide (0 < sz))
   let l<-a2i lo 0
   let h<-a2i hi n
   match mx with
   | none=>do
    a0f (decide (0<=l)&&decide (l<=h)&&decide (h<=(n:Int))&&decide (ks.length=n*sz))
    setD d (.sl (h - l).toNat ((ks.drop (l.toNat*sz)).take ((h - l).toNat*sz)))
   | some m=>do
    let m<-b76 m
    a0f (l==0&&h==0&&m==0&&hi.isSome)
    a26 N d (.own sz 0 [])
  | _=>do
   a0f (decide (0 < sz))
   let (t,q,lo0,n)<-a5x x
   let v<-a9g t
   let k<-a2r (a0c v.1 q)
   match k with
   | .own sz' n0 _=>do
    let l<-a2i lo 0
    let h<-a2i hi n
    a0f (decide (0<=l)&&decide (l<=h)&&decide (h<=(n:Int))&&decide (lo0+n<=n0)&&sz'==sz&&(lo0==0||l==0||decide (l < h)))
    match mx with
    | none=>setD d (.bor t q (lo0+l.toNat) (h - l).toNat v.2)
    | some m=>do
     let m<-b76 m
     a0f (l==0&&h==0&&m==0&&hi.isSome)
     a26 N d (.own sz 0 [])
   | _=> .fail
 | .faddr _ off x _=>do
  let r<-a1k x
  match r.1 with
  | .ip ks o=>setD d (.ip ks (o+off))
  | _=>do
   let (t,q,o,v,e,ks)<-b8h x
   setD d (.ref t q (o+off) e)
 | .aaddr _ off x _=>do
  let r<-a1k x
  match r.1 with
  | .ip ks o=>setD d (.ip ks (o+off))
  | _=>do
   let (t,q,o,v,e,ks)<-b8h x
   setD d (.ref t q (o+off) e)
 | .aaddrv _ sz n x i=>do
  let j<-b76 i
  a0f (decide (0<=j)&&decide (j < (n:Int)))
  let r<-a1k x
  match r.1 with
  | .ip ks o=>setD d (.ip ks (o+j.toNat*sz))
  | _=>do
   let (t,q,o,v,e,ks)<-b8h x
   setD d (.ref t q (o+j.toNat*sz) e)
 | .iaddr _ sz x i=>do
  let n<-b76 i
  a0f (decide (0<=n))
  let r<-a1k x
  match r.1 with
  | .sl m ks=>do
   a0f (decide (n < (m:Int))&&decide (n.toNat*sz < ks.length))
   setD d (.ip ks (n.toNat*sz))
  | _=>do
   let (t,q,lo,m)<-a5x x
   a0f (decide (n < (m:Int)))
   let v<-a9g t
   let k<-a2r (a0c v.1 q)
   match k with
   | .own sz' n0 _=>do
    a0f (sz'==sz&&decide (lo+m<=n0))
    setD d (.ref t q ((lo+n.toNat)*sz) v.2)
   | _=> .fail
 | .ext x i=>do
  let r<-a1k x
  match r.1 with
  | .tup ks=>do
   let k<-a2r ks[i]?
   if a0j k then setD d k else do
    let t<-a99 x
    a2a t (.tup (ks.set i .dead))
    a26 N d k
  | _=> .fail
 | .tas x _ T zs=>do
  let r<-a1k x
  match r.1,zs with
  | .lit .nilIface,[z]=>setD d (.tup [z,.lit (.bool false)])
  | .lit (.iface T' u),[z]=>setD d (.tup (if T'=T then [.lit u,.lit (.bool true)] else [z,.lit (.bool false)]))
  | .ifc T' k,[z]=>do
   a0f (a0j k)
   setD d (.tup (if T'=T then [k,.lit (.bool true)] else [z,.lit (.bool false)]))
  | _,_=> .fail
 | .len _ true x=>do
  let v<-b38 x
  match v with
  | .string s=>setD d (.lit (.int .i64 s.size))
  | _=> .fail
 | .len _ false x=>do
  let r<-a1k x
  match r.1 with
  | .sl n _=>setD d (.lit (.int .i64 n))
  | .own _ n _=>setD d (.lit (.int .i64 n))
  | _=>do
   let (t,q,lo,n)<-a5x x
   let k<-c06 t q
   match k with
   | .own _ n0 _=>do
    a0f (decide (lo+n<=n0))
    setD d (.lit (.int .i64 n))
   | _=> .fail
 | .app _ _ sz by_ x y=>do
  b7q x N
  d0a y N
  let s<-b6v N
  let y<-b6v (N+1)
  match s,y with
  | .own sz1 n xs,.own sz2 m ys=>do
   a0f (sz1==sz&&sz2==sz&&decide ((n+m)*by_<=140737488355328)&&decide (n+m<=140737488355328))
   a2a (N+1) .dead
   a26 N d (.own sz (n+m) (xs++ys))
  | .own sz1 n xs,.sl m ys=>do
   a0f (sz1==sz&&decide (ys.length=m*sz)&&decide ((n+m)*by_<=140737488355328)&&decide (n+m<=140737488355328))
   a2a (N+1) .dead
   a26 N d (.own sz (n+m) (xs++ys))
  | _,_=> .fail
 | .mm mx _ xs=>match xs with
  | [x,y]=>do
   let u<-b38 x
   let v<-b38 y
   match u,v with
   | .int k a,.int k' b=>do
    a0f (decide (k=k'))
    setD d (.lit (.int k (if mx then (if b > a then b else a) else (if b < a then b else a))))
   | _,_=> .fail
  | _=> .fail
 | .mkmap _=>a26 N d (.mp [] [])
 | .mget _ _ zs x k=>do
  let (_,_,_,keys,vals)<-c52 x
  let n<-c5s k
  match a36 keys vals n with
  | some v=>do
   a0f (a0j v)
   setD d (.tup [v,.lit (.bool true)])
  | none=>do
   a0f (a0k zs)
   setD d (.tup [.agg zs,.lit (.bool false)])
 | .mset _ _ x k v=>do
  a0f d.isNone
  let (t,q,v0,keys,vals)<-c52 x
  let n<-c5s k
  let rv<-a1k v
  a0f (b03 rv.1&&decide (t < N))
  a9f t (a0h v0 q (.mp (a28 keys vals n rv.1).1 (a28 keys vals n rv.1).2))
 | .fld _ off x _=>do
  let r<-a1k x
  match r.1 with
  | .agg ks=>do
   let k<-a2r ks[off]?
   a0f (a0j k)
   setD d k
  | _=> .fail
 | .lend _ sz x=>do
  let (t,q,o,v,e,ks)<-b8h x
  a0f (decide (o+sz<=ks.length)&&decide (t < N))
  let l<-a2r (b11 t q e o ((ks.drop o).take sz))
  setD d (.loan l)
end Go.Ideal
end
