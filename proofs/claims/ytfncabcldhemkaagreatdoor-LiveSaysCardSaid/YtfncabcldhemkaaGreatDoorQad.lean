/- Part Qad of the proof: walks on a machine that is proved sound. -/
import Derived.Test.YtfncabcldhemkaaGreatDoorQac
import Derived.Scope
set_option linter.unusedVariables false
set_option linter.unusedSimpArgs false
section
namespace Go.Ideal
open Classical
def e0q (P:Program) (G:GG) (N:Nat) (d:Option Nat) (act:IAct) (K:St->List Nat->List Nat->Prop) (st:St):Prop:=match act with
 | .op i=>match (a1q G N d i).runF N st [] with
  | some r=>K r.st r.rd r.wr
  | none=>False
 | .call f args _=>∃ r1 r2 r3 res,(a6p N (N+2) args).runF N st []=some r1/\(a4i N (N+2) args).runF N r1.st r1.sw=some r2/\ACalls P G f (a61 N args.length r2.st) res/\a0p res=true/\
   (c3u N d res).runF N ((if a1l res then r1.st else r2.st).clear N) []=some r3/\(∀ i,i < args.length->N+2+i∈r2.sw)/\
   K r3.st (r1.rd++r2.rd++r2.wr++r3.rd) (if a1l res then r1.wr++r3.wr else r1.wr++r2.wr++r3.wr)
 | .callx _ _ _ _=>False
 | .nilq _ _ _=>False
 | .bad _=>False
def c9m:AV->Bool
 | .var _=>true
 | _=>false
def a99 (V:List (Nat×Nat)) (st:St):Prop:=∀ p∈V,c9m (st.s p.1)=true/\st.ep p.1=p.2
structure Loc (P:Program) (G:GG) (N:Nat) (V:List (Nat×Nat)) (step:(St->Prop)->St->Prop) (st st':St) (rd wr:List Nat):Prop where
 lt:∀ t,t∈rd\/t∈wr->t < N
 frame:∀ t,t < N->t ∉ wr->agr st st' t
 loc:∀ st2,a99 V st2->(∀ t,t∈rd\/t∈wr->agr st st2 t)->∀ K:St->Prop,(∀ st2',(∀ t,t∈wr->agr st' st2' t)->(∀ t,t < N->t ∉ wr->agr st2 st2' t)->K st2')->step K st2
theorem a3n {N:Nat} (st:St) {t:Nat} (h:t < N):agr st (st.clear N) t:=by simp [agr,St.clear,h]
theorem b95 {V:List (Nat×Nat)} {P:Program} {G:GG} {N:Nat} {d:Option Nat} {act:IAct} {K:St->List Nat->List Nat->Prop} {st:St} (h:e0q P G N d act K st):∃ st' rd wr,K st' rd wr/\Loc P G N V (b8i P G N d act) st st' rd wr:=by
 cases act with
 | op i=>
  simp only [e0q] at h
  split at h
  ·rename_i r hr
   obtain ⟨e1,e2,e3,e4⟩:=a4v _ _ _ r hr
   refine ⟨_,_,_,h,e1,e2,fun st2 _ g1 K2 hK=> ?_⟩
   obtain ⟨st2',q1,q2,q3,_⟩:=e4 st2 g1 (fun t ht=>by simp at ht)
   simp only [b8i,q1]
   exact hK st2' q2 q3
  ·exact h.elim
 | call f args tys=>
  simp only [e0q] at h
  obtain ⟨r1,r2,r3,res,h1,h2,hA,hn,h3,hsw,hK⟩:=h
  obtain ⟨a1,a2,a3,a4⟩:=a4v _ _ _ r1 h1
  obtain ⟨b1,b2,b3,b4⟩:=a4v _ _ _ r2 h2
  obtain ⟨c1,c2,c3,c4⟩:=a4v _ _ _ r3 h3
  have hlt:∀ t,t∈r1.rd++r2.rd++r2.wr++r3.rd\/t∈(if a1l res then r1.wr++r3.wr else r1.wr++r2.wr++r3.wr)->t < N:=fun t ht=>by
   have:t∈r1.rd\/t∈r2.rd\/t∈r2.wr\/t∈r3.rd\/t∈r1.wr\/t∈r3.wr:=by
    rcases ht with ht | ht
    ·simp only [List.mem_append] at ht; rcases ht with ((ht | ht) | ht) | ht<;>simp [ht]
    ·split at ht<;>simp only [List.mem_append] at ht
     ·rcases ht with ht | ht<;>simp [ht]
     ·rcases ht with (ht | ht) | ht<;>simp [ht]
   rcases this with ht | ht | ht | ht | ht | ht
   ·exact a1 t (.inl ht)
   ·exact b1 t (.inl ht)
   ·exact b1 t (.inr ht)
   ·exact c1 t (.inl ht)
   ·exact a1 t (.inr ht)
   ·exact c1 t (.inr ht)
  refine ⟨_,_,_,hK,hlt,fun t ht hnw=> ?_,fun st2 _ g K2 hK2=> ?_⟩
  ·by_cases hni:a1l res=true
   ·rw [if_pos hni] at hnw c2
    simp only [List.mem_append,not_or] at hnw
    exact ((a2 t ht hnw.1).trans (a3n _ ht)).trans (c2 t ht hnw.2)
   ·rw [if_neg hni] at hnw c2
    simp only [List.mem_append,not_or] at hnw
    exact (((a2 t ht hnw.1.1).trans (b2 t ht hnw.1.2)).trans (a3n _ ht)).trans (c2 t ht hnw.2)
  ·have w1:∀ t,t∈r1.wr->agr st st2 t:=fun t ht=>g t (.inr (by split<;>simp [ht]))
   have w3:∀ t,t∈r3.wr->agr st st2 t:=fun t ht=>g t (.inr (by split<;>simp [ht]))
   have gr:∀ t,(t∈r1.rd\/t∈r2.rd\/t∈r2.wr\/t∈r3.rd)->agr st st2 t:=fun t ht=>g t (.inl (by simp only [List.mem_append]; rcases ht with ht | ht | ht | ht<;>simp [ht]))
   obtain ⟨s1,p1,p2,p3,p4⟩:=a4 st2 (fun t ht=>ht.elim (fun ht=>gr t (.inl ht)) (w1 t)) (fun t ht=>by simp at ht)
   have k1:∀ t,t < N->agr st st2 t->agr r1.st s1 t:=fun t ht hg=>by
    by_cases hw:t∈r1.wr
    ·exact p2 t hw
    ·exact ((a2 t ht hw).symm.trans hg).trans (p3 t ht hw)
   obtain ⟨s2,q1,q2,q3,q4⟩:=b4 s1 (fun t ht=>k1 t (b1 t ht) (gr t (ht.elim (fun h=> .inr (.inl h)) fun h=> .inr (.inr (.inl h))))) p4
   have k2:∀ t,t < N->agr st st2 t->agr r2.st s2 t:=fun t ht hg=>by
    by_cases hw:t∈r2.wr
    ·exact q2 t hw
    ·exact ((b2 t ht hw).symm.trans (k1 t ht hg)).trans (q3 t ht hw)
   have hpre:a61 N args.length s2=a61 N args.length r2.st:=by
    unfold a61
    apply List.map_congr_left
    intro i hi
    exact q4 _ (hsw i (by simpa using hi))
   by_cases hni:a1l res=true
   ·rw [if_pos hni] at c2 c4 h3 hK2
    obtain ⟨s3,t1,t2,t3,_⟩:=c4 (s1.clear N) (fun t ht=>by
     have htN:=c1 t ht
     have:=ht.elim (fun h=>gr t (.inr (.inr (.inr h)))) (w3 t)
     exact ((a3n _ htN).symm.trans (k1 t htN this)).trans (a3n _ htN)) (fun t ht=>by simp at ht)
    refine ⟨s1,s2,res,s3,p1,q1,by rw [hpre]; exact hA,hn,by rw [if_pos hni]; exact t1,hK2 s3 (fun t ht=> ?_) fun t ht hnw=> ?_⟩
    ·by_cases hw:t∈r3.wr
     ·exact t2 t hw
     ·have hw1:t∈r1.wr:=by simpa [hw] using ht
      have htN:=a1 t (.inr hw1)
      exact ((c2 t htN hw).symm.trans (((a3n _ htN).symm.trans (p2 t hw1)).trans (a3n _ htN))).trans (t3 t htN hw)
    ·simp only [List.mem_append,not_or] at hnw
     exact ((p3 t ht hnw.1).trans (a3n _ ht)).trans (t3 t ht hnw.2)
   ·rw [if_neg hni] at c2 c4 h3 hK2
    obtain ⟨s3,t1,t2,t3,_⟩:=c4 (s2.clear N) (fun t ht=>by
     have htN:=c1 t ht
     have:=ht.elim (fun h=>gr t (.inr (.inr (.inr h)))) (w3 t)
     exact ((a3n _ htN).symm.trans (k2 t htN this)).trans (a3n _ htN)) (fun t ht=>by simp at ht)
    refine ⟨s1,s2,res,s3,p1,q1,by rw [hpre]; exact hA,hn,by rw [if_neg hni]; exact t1,hK2 s3 (fun t ht=> ?_) fun t ht hnw=> ?_⟩
    ·by_cases hw:t∈r3.wr
     ·exact t2 t hw
     ·have hg:agr st st2 t:=by
       rcases (by simpa [hw] using ht:t∈r1.wr\/t∈r2.wr) with h | h
       ·exact w1 t h
       ·exact gr t (.inr (.inr (.inl h)))
      have htN:t < N:=by
       rcases (by simpa [hw] using ht:t∈r1.wr\/t∈r2.wr) with h | h
       ·exact a1 t (.inr h)
       ·exact b1 t (.inr h)
      exact ((c2 t htN hw).symm.trans (((a3n _ htN).symm.trans (k2 t htN hg)).trans (a3n _ htN))).trans (t3 t htN hw)
    ·simp only [List.mem_append,not_or] at hnw
     exact (((p3 t ht hnw.1.1).trans (q3 t ht hnw.1.2)).trans (a3n _ ht)).trans (t3 t ht hnw.2)
 | callx cv args lay tys=>exact h.elim
 | nilq T x yT=>exact h.elim
 | bad o=>exact h.elim
open Classical
def c1t (o:Oper):List Nat:=(o.after.toList.filter (Region.binds .any)).map (·.on)
def a9t:List (List Nat)->List (List Nat)->List (List Nat)
 | [],acc=>acc
 | a::rest,acc=>a9t rest (acc++[a++a.flatMap fun k=>acc.getD k []])
def d1n (aft anc:List (List Nat)):Bool:=decide (aft.length=anc.length)&&(List.range aft.length).all fun j=>
 (aft.getD j []).all (fun k=>decide (k < j))&&(anc.getD j []).all fun k=>(aft.getD j []).contains k||(aft.getD j []).any fun m=>(anc.getD m []).contains k
def d10 (x y:List Nat×List Nat):Bool:=(x.2.all fun t=> !(y.1.contains t)&& !(y.2.contains t))&&y.2.all fun t=> !(x.1.contains t)
def b5g (aft:List (List Nat)) (fps:List (List Nat×List Nat)):Bool:=
 let anc:=a9t aft []
 d1n aft anc&&(List.range fps.length).all fun j=>(List.range j).all fun i=>(anc.getD j []).contains i||d10 (fps.getD i ([],[])) (fps.getD j ([],[]))
inductive Anc (aft:List (List Nat)):Nat->Nat->Prop where
 | base {k i:Nat}:k∈aft.getD i []->Anc aft k i
 | step {k m i:Nat}:Anc aft k m->m∈aft.getD i []->Anc aft k i
theorem c36 {aft anc:List (List Nat)} (h:d1n aft anc=true):∀ j,j < aft.length->(∀ k,k∈aft.getD j []->k < j)/\∀ k,k∈anc.getD j []->Anc aft k j:=by
 simp only [d1n,Bool.and_eq_true,List.all_eq_true,decide_eq_true_eq,Bool.or_eq_true,List.any_eq_true,List.mem_range] at h
 intro j
 induction j using Nat.strongRecOn with
 | _ j ih=>
  intro hj
  obtain ⟨h1,h2⟩:=h.2 j hj
  refine ⟨h1,fun k hk=> ?_⟩
  rcases h2 k hk with h3 | ⟨m,hm,h3⟩
  ·exact .base (by simpa using h3)
  ·exact .step ((ih m (h1 m hm) (Nat.lt_trans (h1 m hm) hj)).2 k (by simpa using h3)) hm
def dCh (P:Program) (G:GG) (N:Nat) (V:List (Nat×Nat)):List AO->List (List Nat×List Nat)->(St->List (List Nat×List Nat)->Prop)->St->Prop
 | [],fps,K,st=>K st fps
 | io::rest,fps,K,st=>∃ st' rd wr,Loc P G N V (b0j P G N io) st st' rd wr/\a99 V st'/\dCh P G N V rest (fps++[(rd,wr)]) K st'
def e0m (P:Program) (G:GG) (N:Nat) (ios:List AO) (aft:List (List Nat)) (K:St->Prop) (st:St):Prop:=
 ∃ V:List (Nat×Nat),(∀ p∈V,p.1 < N)/\a99 V st/\dCh P G N V ios [] (fun stn fps=>b5g aft fps=true/\∀ st',(∀ t,t < N->agr stn st' t)->K st') st
theorem c19 {P:Program} {G:GG} {N:Nat} {V:List (Nat×Nat)}:∀ (is:List AO) (fps:List (List Nat×List Nat)) (K:St->List (List Nat×List Nat)->Prop) (st:St),a99 V st->dCh P G N V is fps K st->
  ∃ (S:Nat->St) (fp:List (List Nat×List Nat)),S 0=st/\fp.length=is.length/\K (S is.length) (fps++fp)/\(∀ i,a99 V (S i))/\∀ i io,is[i]? =some io->Loc P G N V (b0j P G N io) (S i) (S (i+1)) (fp.getD i ([],[])).1 (fp.getD i ([],[])).2
 | [],fps,K,st,h0,h=>⟨fun _=>st,[],rfl,rfl,by simpa [dCh] using h,fun _=>h0,fun i io hi=>by simp at hi⟩
 | io::is,fps,K,st,h0,h=>by
  simp only [dCh] at h
  obtain ⟨st',rd,wr,hL,hI,h1⟩:=h
  obtain ⟨S,fp,e1,e2,e3,e5,e4⟩:=c19 is (fps++[(rd,wr)]) K st' hI h1
  refine ⟨fun n=>match n with | 0=>st | n+1=>S n,(rd,wr)::fp,rfl,by simp [e2],by simpa using e3,fun i=>(by
   cases i with
   | zero=>exact h0
   | succ i=>exact e5 i),fun i io' hi=> ?_⟩
  cases i with
  | zero=>
   simp only [List.getElem?_cons_zero,Option.some.injEq] at hi
   subst hi
   simp only [List.getD_cons_zero]
   rw [e1]; exact hL
  | succ i=>
   simp only [List.getD_cons_succ]
   exact e4 i io' (by simpa using hi)
section
variable {P:Program} {G:GG} {N n:Nat} {S:Nat->St} {rd wr:Nat->List Nat}
theorem a7b (hF:∀ i,i < n->∀ t,t < N->t ∉ wr i->agr (S i) (S (i+1)) t) {t:Nat} (ht:t < N):∀ (m i:Nat),i<=m->m<=n->(∀ k,i<=k->k < m->t ∉ wr k)->agr (S i) (S m) t
 | 0,i,h1,_,_=>by obtain rfl:i=0:=by omega
                  exact agr.refl _ _
 | m+1,i,h1,h2,h3=>by
  by_cases hi:i=m+1
  ·subst hi; exact agr.refl _ _
  ·exact (a7b hF ht m i (by omega) (by omega) (fun k hk hk2=>h3 k hk (by omega))).trans (hF m (by omega) t ht (h3 m (by omega) (by omega)))
def e81 (N:Nat) (S:Nat->St) (wr:Nat->List Nat) (L:Nat->Prop) (st:St):Prop:=∀ t,t < N->
 (∀ j,L j->t∈wr j->(∀ k,L k->t∈wr k->k<=j)->agr (S (j+1)) st t)/\((∀ j,L j->t ∉ wr j)->agr (S 0) st t)
theorem c0k {p:Nat->Prop}:∀ (m:Nat),(∃ k,k < m/\p k)->∃ j,j < m/\p j/\∀ k,k < m->p k->k<=j
 | 0,⟨k,hk,_⟩=>by omega
 | m+1,⟨k,hk,hp⟩=>by
  by_cases hm:p m
  ·exact ⟨m,by omega,hm,fun k hk _=>by omega⟩
  ·have:k≠m:=fun h=>hm (h ▸ hp)
   obtain ⟨j,h1,h2,h3⟩:=c0k m ⟨k,by omega,hp⟩
   refine ⟨j,by omega,h2,fun k hk hp=> ?_⟩
   have:k≠m:=fun h=>hm (h ▸ hp)
   exact h3 k (by omega) hp
theorem d1q (hF:∀ i,i < n->∀ t,t < N->t ∉ wr i->agr (S i) (S (i+1)) t) {L:Nat->Prop} {st:St} (hInv:e81 N S wr L st) (hL:∀ k,L k->k < n) {i:Nat} (hi:i < n) {t:Nat} (ht:t < N)
  (h1:∀ k,L k->t∈wr k->k < i) (h2:∀ k,k < i->t∈wr k->L k):agr (S i) st t:=by
 by_cases hex:∃ k,k < i/\t∈wr k
 ·obtain ⟨j,e1,e2,e3⟩:=c0k (p:=fun k=>t∈wr k) i hex
  have hj:=(hInv t ht).1 j (h2 j e1 e2) e2 (fun k hk hw=>e3 k (h1 k hk hw) hw)
  exact (a7b hF ht i (j+1) (by omega) (by omega) (fun k hk hk2 hw=>by have:=e3 k hk2 hw; omega)).symm.trans hj
 ·have hj:=(hInv t ht).2 (fun j hj hw=>hex ⟨j,h1 j hj hw,hw⟩)
  exact (a7b hF ht i 0 (by omega) (by omega) (fun k _ hk hw=>hex ⟨k,hk,hw⟩)).symm.trans hj
end
theorem c23 {ops:Array Oper} {listed:Array Bool} {i:Nat} (h:i∈Region.ready .any ops listed):i < ops.size/\listed.getD i true=false/\∃ o,ops[i]? =some o/\∀ k,k∈c1t o->listed.getD k false=true:=by
 simp only [Region.ready,List.mem_filter,List.mem_range,Bool.and_eq_true,Bool.not_eq_true'] at h
 obtain ⟨h1,h2,h3⟩:=h
 refine ⟨h1,h2,ops[i],by simp [h1],fun k hk=> ?_⟩
 simp only [h1,Array.getElem?_eq_getElem,Option.map_some,Option.getD_some,Array.all_eq_true] at h3
 simp only [c1t,List.mem_map,List.mem_filter] at hk
 obtain ⟨e,⟨he,hb⟩,rfl⟩:=hk
 obtain ⟨m,hm,rfl⟩:=Array.mem_iff_getElem.1 (Array.mem_toList_iff.1 he)
 have:=h3 m hm
 simp only [hb,Bool.not_true,Bool.false_or] at this
 exact this
theorem d3n {ops:Array Oper} {listed:Array Bool} {i:Nat} {o:Oper} (h1:ops[i]? =some o) (h2:listed.getD i true=false) (h3:∀ k,k∈c1t o->listed.getD k false=true):i∈Region.ready .any ops listed:=by
 have hlt:=(Array.getElem?_eq_some_iff.1 h1).1
 simp only [Region.ready,List.mem_filter,List.mem_range,Bool.and_eq_true,Bool.not_eq_true']
 refine ⟨hlt,h2,?_⟩
 simp only [h1,Option.map_some,Option.getD_some,Array.all_eq_true]
 intro m hm
 by_cases hb:Region.binds .any o.after[m]=true
 ·have:=h3 o.after[m].on (by
   simp only [c1t,List.mem_map,List.mem_filter]
   exact ⟨_,⟨by simp,hb⟩,rfl⟩)
  simp [this]
 ·simp [hb]
open Classical
theorem c66 {x y:List Nat×List Nat} (h:d10 x y=true):(∀ t,t∈x.2->t ∉ y.1/\t ∉ y.2)/\∀ t,t∈y.2->t ∉ x.1:=by
 simp only [d10,Bool.and_eq_true,List.all_eq_true,Bool.not_eq_true',List.contains_iff_mem] at h
 refine ⟨fun t ht=> ?_,fun t ht=> ?_⟩
 ·have:=h.1 t ht
  simpa using this
 ·have:=h.2 t ht
  simpa using this
theorem c8u {n:Nat} {listed:Array Bool} (hsz:listed.size=n) {i:Nat} (hi:i < n) (h:listed.getD i true=false) :
  ((List.range n).filter fun j=> !(listed.setIfInBounds i true).getD j true).length+1=((List.range n).filter fun j=> !listed.getD j true).length:=by
 have key:∀ (l:List Nat),l.Nodup->(i∈l->((l.filter fun j=> !(listed.setIfInBounds i true).getD j true).length+1=(l.filter fun j=> !listed.getD j true).length))/\(i ∉ l->((l.filter fun j=> !(listed.setIfInBounds i true).getD j true)=(l.filter fun j=> !listed.getD j true))):=by
  intro l
  induction l with
  | nil=>intro _; exact ⟨fun h=>by simp at h,fun _=>rfl⟩
  | cons x l ih=>
   intro hn
   obtain ⟨hx,hl⟩:=List.nodup_cons.1 hn
   obtain ⟨i1,i2⟩:=ih hl
   by_cases hxi:x=i
   ·subst hxi
    refine ⟨fun _=> ?_,fun hc=>by simp at hc⟩
    have h1:(!(listed.setIfInBounds x true).getD x true)=false:=by simp [Array.getD_eq_getD_getElem?,Array.getElem?_setIfInBounds,hsz,hi]
    have h2:(!listed.getD x true)=true:=by rw [h]; rfl
    rw [List.filter_cons,List.filter_cons,h1,h2,i2 hx]
    rfl
   ·have h1:(listed.setIfInBounds i true).getD x true=listed.getD x true:=by
     simp [Array.getD_eq_getD_getElem?,Array.getElem?_setIfInBounds_ne (Ne.symm hxi)]
    rw [List.filter_cons,List.filter_cons,h1]
    refine ⟨fun hc=> ?_,fun hc=> ?_⟩
    ·have hil:i∈l:=by rcases List.mem_cons.1 hc with rfl | hc; exact absurd rfl hxi; exact hc
     have:=i1 hil
     cases hb:listed.getD x true with
     | true=>exact this
     | false=>simp only [Bool.not_false,if_true,List.length_cons]; omega
    ·have hil:i ∉ l:=fun hc2=>hc (List.mem_cons_of_mem _ hc2)
     rw [i2 hil]
 exact (key _ List.nodup_range).1 (List.mem_range.2 hi)
theorem c8x {V:List (Nat×Nat)} {pins:List Nat} {a0:Act} {E:Env} {P:Program} {G:GG} {N:Nat} {ops:Array Oper} {ios:List AO} {aft:List (List Nat)} {S:Nat->St} {fp:List (List Nat×List Nat)} {K:St->Prop} {Q:Exit->Act->World->Prop}
  (hm:ops.toList.map o3=ios.map AO.e3) (ha:ops.toList.map c1t=aft) (hok:c7v P N ios=true) (hpin:∀ io∈ios,∀ t∈pins,io.dst≠some t) (hG:E.G=G) (hfp:fp.length=ios.length)
  (hVN:∀ p∈V,p.1 < N) (hVS:∀ i,a99 V (S i)) (hLoc:∀ i io,ios[i]? =some io->Loc P G N V (b0j P G N io) (S i) (S (i+1)) (fp.getD i ([],[])).1 (fp.getD i ([],[])).2) (hind:b5g aft fp=true)
  (hfin:∀ st',(∀ t,t < N->agr (S ios.length) st' t)->K st') (hK:∀ st' a' w' val' ow',K st'->(∀ t∈pins,a'.tmps.getD t undef=a0.tmps.getD t undef)->Sim E N st' a' w' val' ow'->Q .normal a' w') :
  ∀ (fuel:Nat) (listed:Array Bool) {st:St} {a:Act} {w:World} {val:Nat->Value} {ow:Nat->Option Nat},listed.size=ops.size->((List.range ops.size).filter fun i=> !listed.getD i true).length=fuel->
   (∀ j,listed.getD j false=true->∀ k,k∈aft.getD j []->listed.getD k false=true)->e81 N S (fun i=>(fp.getD i ([],[])).2) (fun j=>listed.getD j false=true) st->(∀ t∈pins,a.tmps.getD t undef=a0.tmps.getD t undef)->Sim E N st a w val ow->wpAny P .any ops Q fuel listed a w:=by
 have hsz:ops.size=ios.length:=by have:=congrArg List.length hm; simpa using this
 have hasz:aft.length=ios.length:=by rw [<-ha]; simp [hsz]
 have haft:∀ i o,ops[i]? =some o->aft.getD i []=c1t o:=fun i o ho=>by
  rw [<-ha]
  have:ops.toList[i]? =some o:=by simpa using ho
  simp [List.getD_eq_getElem?_getD,this]
 simp only [b5g,Bool.and_eq_true,List.all_eq_true,List.mem_range,Bool.or_eq_true] at hind
 obtain ⟨hanc,hpair⟩:=hind
 have hS:=c36 hanc
 have hF:∀ i,i < ios.length->∀ t,t < N->t ∉ (fp.getD i ([],[])).2->agr (S i) (S (i+1)) t:=fun i hi t ht hn=>by
  exact (hLoc i ios[i] (by simp [hi])).frame t ht hn
 have hdep:∀ i j,i < j->j < ios.length->(∃ t,(t∈(fp.getD i ([],[])).2/\(t∈(fp.getD j ([],[])).1\/t∈(fp.getD j ([],[])).2))\/(t∈(fp.getD j ([],[])).2/\t∈(fp.getD i ([],[])).1))->Anc aft i j:=fun i j hij hj ⟨t,ht⟩=>by
  rcases hpair j (by omega) i hij with h1 | h1
  ·exact (hS j (by omega)).2 i (by simpa using h1)
  ·obtain ⟨d1,d2⟩:=c66 h1
   rcases ht with ⟨h2,h3⟩ | ⟨h2,h3⟩
   ·exact (h3.elim (d1 t h2).1 (d1 t h2).2).elim
   ·exact (d2 t h2 h3).elim
 intro fuel
 induction fuel with
 | zero=>
  intro listed st a w val ow hls hcount hclosed hInv hp hs
  have hall:∀ i,i < ops.size->listed.getD i true=true:=fun i hi=>by
   have h0:=List.eq_nil_of_length_eq_zero hcount
   rw [List.filter_eq_nil_iff] at h0
   have:=h0 i (List.mem_range.2 hi)
   simpa using this
  have hlast:Q .normal a w:=by
   refine hK st a w val ow (hfin st fun t ht=> ?_) hp hs
   have hLi:∀ i,i < ios.length->listed.getD i false=true:=fun i hi=>by
    have:=hall i (by omega)
    simp only [Array.getD_eq_getD_getElem?] at this ⊢
    have hl:i < listed.size:=by omega
    simpa [hl] using this
   by_cases hex:∃ k,k < ios.length/\t∈(fp.getD k ([],[])).2
   ·obtain ⟨j,e1,e2,e3⟩:=c0k (p:=fun k=>t∈(fp.getD k ([],[])).2) _ hex
    have hout:∀ k,listed.getD k false=true->k < ios.length:=fun k hk=>by
     by_cases hkl:k < listed.size
     ·omega
     ·simp [Array.getD_eq_getD_getElem?,hkl] at hk
    have hj:=(hInv t ht).1 j (hLi j e1) e2 (fun k hk hw=>e3 k (hout k hk) hw)
    exact (a7b (n:=ios.length) hF ht ios.length (j+1) (by omega) (Nat.le_refl _) (fun k hk hk2 hw=>by have:=e3 k hk2 hw; omega)).symm.trans hj
   ·have hout:∀ k,listed.getD k false=true->k < ios.length:=fun k hk=>by
     by_cases hkl:k < listed.size
     ·omega
     ·simp [Array.getD_eq_getD_getElem?,hkl] at hk
    have hj:=(hInv t ht).2 (fun j hj hw=>hex ⟨j,hout j hj,hw⟩)
    exact (a7b (n:=ios.length) hF ht ios.length 0 (by omega) (Nat.le_refl _) (fun k _ hk hw=>hex ⟨k,hk,hw⟩)).symm.trans hj
  refine ⟨?_,hlast⟩
  cases hr:Region.ready .any ops listed with
  | nil=>rfl
  | cons i l=>
   obtain ⟨h1,h2,_⟩:=c23 (by rw [hr]; simp:i∈Region.ready .any ops listed)
   rw [hall i h1] at h2; cases h2
 | succ fuel ih=>
  intro listed st a w val ow hls hcount hclosed hInv hp hs
  refine ⟨fun hr=> ?_,fun i hi=> ?_⟩
  ·-- the first that isn't listed is ready
   exfalso
   have hex:∃ i,i < ops.size/\listed.getD i true=false:=by
    cases hf:(List.range ops.size).filter fun i=> !listed.getD i true with
    | nil=>rw [hf] at hcount; simp at hcount
    | cons x l=>
     have:x∈(List.range ops.size).filter fun i=> !listed.getD i true:=by rw [hf]; simp
     simp only [List.mem_filter,List.mem_range,Bool.not_eq_true'] at this
     exact ⟨x,this⟩
   have hmin:∃ i,(i < ops.size/\listed.getD i true=false)/\∀ k,k < i->¬ (k < ops.size/\listed.getD k true=false):=by
    obtain ⟨i,hi⟩:=hex
    induction i using Nat.strongRecOn with
    | _ i ihm=>
     by_cases hx:∃ k,k < i/\(k < ops.size/\listed.getD k true=false)
     ·obtain ⟨k,h1,h2⟩:=hx; exact ihm k h1 h2
     ·exact ⟨i,hi,fun k h1 h2=>hx ⟨k,h1,h2⟩⟩
   obtain ⟨i,⟨h1,h2⟩,h3⟩:=hmin
   have:i∈Region.ready .any ops listed:=d3n (o:=ops[i]) (by simp [h1]) h2 (fun k hk=>by
    have hk':k∈aft.getD i []:=by rw [haft i ops[i] (by simp [h1])]; exact hk
    have hki:=(hS i (by omega)).1 k hk'
    have:=h3 k hki
    have hkl:k < listed.size:=by omega
    simp only [Array.getD_eq_getD_getElem?] at this ⊢
    simp [hkl,show k < ops.size by omega] at this ⊢
    exact this)
   rw [hr] at this; simp at this
  ·obtain ⟨h1,h2,o,ho,h3⟩:=c23 hi
   have hin:i < ios.length:=by omega
   have hio:ios[i]? =some ios[i]:=by simp [hin]
   have hmi:o3 o=ios[i].e3:=by
    have h4:(ops.toList.map o3)[i]? =(ios.map AO.e3)[i]? :=by rw [hm]
    have h5:ops.toList[i]? =some o:=by simpa using ho
    simp only [List.getElem?_map,h5,hio,Option.map_some,Option.some.injEq] at h4
    exact h4
   have hnL:¬ listed.getD i false=true:=by
    have hl:i < listed.size:=by omega
    simp only [Array.getD_eq_getD_getElem?] at h2 ⊢
    simp [hl] at h2 ⊢
    exact h2
   have hLn:∀ k,listed.getD k false=true->k < ios.length:=fun k hk=>by
    by_cases hkl:k < listed.size
    ·omega
    ·simp [Array.getD_eq_getD_getElem?,hkl] at hk
   have hancL:∀ j k,Anc aft k j->(∀ m,m∈aft.getD j []->listed.getD m false=true)->listed.getD k false=true:=fun j k hA=>by
    induction hA with
    | base hk=>intro hc; exact hc _ hk
    | step hA hmem ihA=>intro hc; exact ihA (fun m hm2=>hclosed _ (hc _ hmem) m hm2)
   have hai:∀ m,m∈aft.getD i []->listed.getD m false=true:=fun m hm2=>h3 m (by rw [<-haft i o ho]; exact hm2)
   have hL:=hLoc i ios[i] hio
   have hbef:∀ t,(t∈(fp.getD i ([],[])).1\/t∈(fp.getD i ([],[])).2)->∀ k,listed.getD k false=true->t∈(fp.getD k ([],[])).2->k < i:=fun t ht k hk hw=>by
    rcases Nat.lt_trichotomy k i with h | h | h
    ·exact h
    ·subst h; exact absurd hk hnL
    ·have hA:=hdep i k h (hLn k hk) ⟨t,by
      rcases ht with ht | ht
      ·exact .inr ⟨hw,ht⟩
      ·exact .inl ⟨ht,.inr hw⟩⟩
     exact absurd (hancL k i hA (hclosed k hk)) hnL
   have hbef2:∀ t,(t∈(fp.getD i ([],[])).1\/t∈(fp.getD i ([],[])).2)->∀ k,k < i->t∈(fp.getD k ([],[])).2->listed.getD k false=true:=fun t ht k hk hw=>
    hancL i k (hdep k i hk hin ⟨t,.inl ⟨hw,ht⟩⟩) hai
   have hst:∀ t,(t∈(fp.getD i ([],[])).1\/t∈(fp.getD i ([],[])).2)->agr (S i) st t:=fun t ht=>
    d1q (n:=ios.length) hF hInv hLn hin (hL.lt t ht) (hbef t ht) (hbef2 t ht)
   have hIV:a99 V st:=fun p hp=>by
    have hag:∃ m,agr (S m) st p.1:=by
     by_cases hex:∃ k,k < ios.length/\listed.getD k false=true/\p.1∈(fp.getD k ([],[])).2
     ·obtain ⟨j,e1,e2,e3⟩:=c0k (p:=fun k=>listed.getD k false=true/\p.1∈(fp.getD k ([],[])).2) _ hex
      exact ⟨j+1,(hInv p.1 (hVN p hp)).1 j e2.1 e2.2 (fun k hk hw=>e3 k (hLn k hk) ⟨hk,hw⟩)⟩
     ·exact ⟨0,(hInv p.1 (hVN p hp)).2 (fun j hj hw=>hex ⟨j,hLn j hj,hj,hw⟩)⟩
    obtain ⟨m,hm1,hm2⟩:=hag
    have:=hVS m p hp
    rw [<-hm1,<-hm2] at this
    exact this
   have hstep:=hL.loc st hIV hst (fun st2=>e81 N S (fun i=>(fp.getD i ([],[])).2) (fun j=>(listed.setIfInBounds i true).getD j false=true) st2) (fun st2' g1 g2=>by
    have hL':∀ j,(listed.setIfInBounds i true).getD j false=true↔j=i\/listed.getD j false=true:=fun j=>by
     by_cases hj:j=i
     ·subst hj
      have hl:j < listed.size:=by omega
      simp [Array.getD_eq_getD_getElem?,Array.getElem?_setIfInBounds,hl]
     ·simp [Array.getD_eq_getD_getElem?,Array.getElem?_setIfInBounds_ne (Ne.symm hj),hj]
    intro t ht
    by_cases hw:t∈(fp.getD i ([],[])).2
    ·refine ⟨fun j hj hjw hmax=> ?_,fun hn=>absurd hw (hn i ((hL' i).2 (.inl rfl)))⟩
     have hij:=hmax i ((hL' i).2 (.inl rfl)) hw
     rcases (hL' j).1 hj with rfl | hj2
     ·exact g1 t hw
     ·have:=hbef t (.inr hw) j hj2 hjw; omega
    ·refine ⟨fun j hj hjw hmax=> ?_,fun hn=> ?_⟩
     ·rcases (hL' j).1 hj with rfl | hj2
      ·exact absurd hjw hw
      ·exact ((hInv t ht).1 j hj2 hjw (fun k hk hkw=>hmax k ((hL' k).2 (.inr hk)) hkw)).trans (g2 t ht hw)
     ·exact ((hInv t ht).2 (fun j hj=>hn j ((hL' j).2 (.inr hj)))).trans (g2 t ht hw))
   have hokio:=List.all_eq_true.1 hok ios[i] (by simp)
   have hcl':∀ j,(listed.setIfInBounds i true).getD j false=true->∀ k,k∈aft.getD j []->(listed.setIfInBounds i true).getD k false=true:=fun j hj k hk=>by
    have mono:listed.getD k false=true->(listed.setIfInBounds i true).getD k false=true:=fun h=>by
     by_cases hki:k=i
     ·subst hki; exact absurd h hnL
     ·simp only [Array.getD_eq_getD_getElem?,Array.getElem?_setIfInBounds_ne (Ne.symm hki)] at h ⊢
      exact h
    by_cases hji:j=i
    ·subst hji; exact mono (hai k hk)
    ·refine mono (hclosed j ?_ k hk)
     simpa [Array.getD_eq_getD_getElem?,Array.getElem?_setIfInBounds_ne (Ne.symm hji)] using hj
   have hcnt:=c8u hls h1 h2
   have hrun:=b9t (K':=fun a' w'=>wpAny P .any ops Q fuel (listed.setIfInBounds i true) a' w') (Q:=Q) hs hG hm hmi hokio hstep (fun st' a' w' val' ow' hk hkp hs'=>
    ih (listed.setIfInBounds i true) (by simpa using hls) (by omega) hcl' hk (fun t ht=>(hkp t (by
     have e1:o.dst=ios[i].dst:=by have:=hmi; simp only [o3,AO.e3,Prod.mk.injEq] at this; exact this.1
     rw [e1]; exact hpin _ (by simp) t ht)).trans (hp t ht)) hs')
   unfold wpOp
   rw [ho]
   simp only
   split
   ·rename_i hw; rw [if_pos hw] at hrun; exact .inl hrun
   ·rename_i hw; rw [if_neg hw] at hrun; exact hrun
theorem AWp.draw {pins:List Nat} {P:Program} {G:GG} {N:Nat} {id:Nat} {ops:Array Oper} {ios:List AO} {aft:List (List Nat)} {Q:Exit->St->Prop} {st:St} (hord:P.follows .mixedOrders=true) (hm:ops.toList.map o3=ios.map AO.e3) (ha:ops.toList.map c1t=aft) (hok:c7v P N ios=true) (hpin:∀ io∈ios,∀ t∈pins,io.dst≠some t)
  (h:e0m P G N ios aft (Q .normal) st):AWp P G N pins (.region id ops true) Q st:=fun E a w val ow hG hs=>by
 obtain ⟨V,hVN,hV0,h⟩:=h
 obtain ⟨S,fp,e1,e2,⟨e3,e4⟩,e6,e5⟩:=c19 ios [] _ st hV0 h
 rw [List.nil_append] at e3
 refine wp_region_any hord ?_
 have hs2:Sim E N st a { w with drawn:=w.drawn+1 } val ow:=hs.world rfl rfl rfl rfl
 have hsz:ops.size=ios.length:=by have:=congrArg List.length hm; simpa using this
 have hrep:∀ (j:Nat) (d:Bool),(Array.replicate ops.size false).getD j d=true->¬ j < ops.size:=fun j d h hj=>by
  simp [Array.getD_eq_getD_getElem?,hj] at h
 refine c8x (a0:=a) hm ha hok hpin hG e2 hVN e6 e5 e3 (K:=Q .normal) e4 (fun st' a' w' val' ow' hk hp hs'=>⟨hp,st',val',ow',hk,hs'⟩) ops.size _ (by simp) ?_ (fun j hj=> ?_) (fun t ht=>⟨fun j hj=> ?_,fun _=>by rw [e1]; exact agr.refl _ _⟩) (fun _ _=>rfl) hs2
 ·rw [List.filter_eq_self.2 (fun i hi=>by
   have hi':=List.mem_range.1 hi
   simp [Array.getD_eq_getD_getElem?,hi'])]
  simp
 ·exfalso
  have h1:=hrep j false hj
  simp [Array.getD_eq_getD_getElem?,h1] at hj
 ·exfalso
  have h1:=hrep j false hj
  simp [Array.getD_eq_getD_getElem?,h1] at hj
inductive EC where
 | skip
 | reg (ops:List (Option Nat×Op×Option (Nat×Bool)))
 | draw (ops:List (Option Nat×Op×Option (Nat×Bool))) (aft:List (List Nat))
 | seq (a b:EC)
 | cond (c:Operand) (a b:EC)
 | block (id:Nat) (a:EC)
 | loop (a:EC)
 | scope (a:EC)
 | exit (id:Nat)
 | label (l:Nat)
 | ret
 | other
def b1o:Code->EC
 | .skip=> .skip
 | .region _ ops false=> .reg (ops.toList.map o3)
 | .region _ ops true=> .draw (ops.toList.map o3) (ops.toList.map c1t)
 | .seq a b=> .seq (b1o a) (b1o b)
 | .cond c a b=> .cond c (b1o a) (b1o b)
 | .block id a=> .block id (b1o a)
 | .loop a=> .loop (b1o a)
 | .scope a=> .scope (b1o a)
 | .exit id=> .exit id
 | .label l=> .label l
 | .ret=> .ret
 | _=> .other
inductive IC where
 | skip
 | reg (ios:List AO)
 | draw (ios:List AO) (aft:List (List Nat))
 | seq (a b:IC)
 | cond (c:X) (a b:IC)
 | block (id:Nat) (a:IC)
 | loop (a:IC)
 | scope (a:IC)
 | exit (id:Nat)
 | label (l:Nat)
 | ret
def IC.ec:IC->EC
 | .skip=> .skip
 | .reg ios=> .reg (ios.map AO.e3)
 | .draw ios aft=> .draw (ios.map AO.e3) aft
 | .seq a b=> .seq a.ec b.ec
 | .cond c a b=> .cond c.op a.ec b.ec
 | .block id a=> .block id a.ec
 | .loop a=> .loop a.ec
 | .scope a=> .scope a.ec
 | .exit id=> .exit id
 | .label l=> .label l
 | .ret=> .ret
def IC.ok (P:Program) (N:Nat):IC->Bool
 | .reg ios=>c7v P N ios
 | .draw ios _=>c7v P N ios
 | .seq a b=>a.ok P N&&b.ok P N
 | .cond _ a b=>a.ok P N&&b.ok P N
 | .block _ a=>a.ok P N
 | .loop a=>a.ok P N
 | .scope a=>a.ok P N
 | _=>true
def e75 (pins:List Nat) (ios:List AO):Bool:=ios.all fun io=>match io.dst with
 | some d=> !pins.contains d
 | none=>true
def IC.pin (pins:List Nat):IC->Bool
 | .reg ios=>e75 pins ios
 | .draw ios _=>e75 pins ios
 | .seq a b=>a.pin pins&&b.pin pins
 | .cond _ a b=>a.pin pins&&b.pin pins
 | .block _ a=>a.pin pins
 | .loop a=>a.pin pins
 | .scope a=>a.pin pins
 | _=>true
theorem b9i {pins:List Nat} {ios:List AO} (h:e75 pins ios=true):∀ io∈ios,∀ t∈pins,io.dst≠some t:=fun io hi t ht he=>by
 have:=List.all_eq_true.1 h io hi
 rw [he] at this
 simp only [Bool.not_eq_true',List.contains_iff_mem] at this
 simp [ht] at this
theorem IC.pin_nil:∀ ic:IC,ic.pin []=true
 | .reg ios | .draw ios _=>by
  simp only [IC.pin,e75,List.all_eq_true]
  intro io _
  cases io.dst<;>simp
 | .seq a b | .cond _ a b=>by simp [IC.pin,pin_nil a,pin_nil b]
 | .block _ a | .loop a | .scope a=>by simp [IC.pin,pin_nil a]
 | .skip | .exit _ | .label _ | .ret=>rfl
def b45 (Q:Exit->St->Prop):Exit->St->Prop
 | .goto _,_=>False
 | e,st=>Q e st
theorem AWp.scope {pins:List Nat} {P:Program} {G:GG} {N:Nat} {st:St} {c:Code} {Q:Exit->St->Prop} (h:AWp P G N pins c (b45 Q) st):AWp P G N pins (.scope c) Q st:=fun E a w val ow hG hs=>
 wp_scope_straight (wp_mono (h E a w val ow hG hs) fun e a' w' ⟨hp,st',val',ow',hq,hs'⟩=>by
  cases e<;>first | exact hq.elim | exact ⟨hp,st',val',ow',hq,hs'⟩)
def AW (P:Program) (G:GG) (N:Nat):IC->(Exit->St->Prop)->St->Prop
 | .skip,Q,st=>Q .normal st
 | .reg ios,Q,st=>b12 P G N ios (Q .normal) st
 | .draw ios aft,Q,st=>e0m P G N ios aft (Q .normal) st
 | .seq a b,Q,st=>AW P G N a (b1z (AW P G N b Q) Q) st
 | .cond c a b,Q,st=>match d1y st N c with
  | some true=>AW P G N a Q st
  | some false=>AW P G N b Q st
  | none=>False
 | .block id a,Q,st=>AW P G N a (b13 id Q) st
 | .loop a,Q,st=>∃ (ι:Type) (I:ι->St->Prop) (μ:ι->Nat) (i0:ι),I i0 st/\∀ i st,I i st->AW P G N a (b1z (fun st'=>∃ i',I i' st'/\μ i' < μ i) Q) st
 | .scope a,Q,st=>AW P G N a (b45 Q) st
 | .exit id,Q,st=>Q (.exit id) st
 | .label _,Q,st=>Q .normal st
 | .ret,Q,st=>Q .ret st
theorem c5q {pins:List Nat} {P:Program} {G:GG} {N:Nat} (hord:P.follows .mixedOrders=true):∀ (ic:IC) (c:Code) (Q:Exit->St->Prop) (st:St),b1o c=ic.ec->ic.ok P N=true->ic.pin pins=true->AW P G N ic Q st->AWp P G N pins c Q st:=by
 intro ic
 induction ic with
 | skip=>
  intro c Q st he hok hpn h
  cases c<;>simp only [b1o,IC.ec,reduceCtorEq] at he
  ·exact AWp.skip h
  ·rename_i id ops d; cases d<;>simp [b1o] at he
 | reg ios=>
  intro c Q st he hok hpn h
  cases c<;>simp only [b1o,IC.ec,reduceCtorEq] at he
  rename_i id ops d
  cases d<;>simp only [b1o,EC.reg.injEq,reduceCtorEq] at he
  exact AWp.region (l:=ops.toList) he hok (b9i hpn) h
 | draw ios aft=>
  intro c Q st he hok hpn h
  cases c<;>simp only [b1o,IC.ec,reduceCtorEq] at he
  rename_i id ops d
  cases d<;>simp only [b1o,EC.draw.injEq,reduceCtorEq] at he
  exact AWp.draw hord he.1 he.2 hok (b9i hpn) h
 | seq a b iha ihb=>
  intro c Q st he hok hpn h
  cases c<;>simp only [b1o,IC.ec,reduceCtorEq] at he
  ·rename_i id ops d; cases d<;>simp [b1o] at he
  ·rename_i x y
   simp only [EC.seq.injEq] at he
   simp only [IC.ok,IC.pin,Bool.and_eq_true] at hok hpn
   exact AWp.seq ((iha x _ st he.1 hok.1 hpn.1 h).mono fun e st' hq=>by
    cases e<;>first | exact ihb y _ st' he.2 hok.2 hpn.2 hq | exact hq)
 | cond cx a b iha ihb=>
  intro c Q st he hok hpn h
  cases c<;>simp only [b1o,IC.ec,reduceCtorEq] at he
  ·rename_i id ops d; cases d<;>simp [b1o] at he
  ·rename_i c' x y
   simp only [EC.cond.injEq] at he
   obtain ⟨rfl,h1,h2⟩:=he
   simp only [IC.ok,IC.pin,Bool.and_eq_true] at hok hpn
   simp only [AW] at h
   split at h
   ·rename_i hc; exact AWp.cond hc (iha x _ st h1 hok.1 hpn.1 h)
   ·rename_i hc; exact AWp.cond hc (ihb y _ st h2 hok.2 hpn.2 h)
   ·exact h.elim
 | block id a iha=>
  intro c Q st he hok hpn h
  cases c<;>simp only [b1o,IC.ec,reduceCtorEq] at he
  ·rename_i id ops d; cases d<;>simp [b1o] at he
  ·rename_i id' x
   simp only [EC.block.injEq] at he
   obtain ⟨rfl,h1⟩:=he
   exact AWp.block (iha x _ st h1 hok hpn h)
 | loop a iha=>
  intro c Q st he hok hpn h
  cases c<;>simp only [b1o,IC.ec,reduceCtorEq] at he
  ·rename_i id ops d; cases d<;>simp [b1o] at he
  ·rename_i x
   simp only [EC.loop.injEq] at he
   obtain ⟨ι,I,μ,i0,h0,hround⟩:=h
   exact AWp.loop I μ i0 h0 fun i st' hI=>iha x _ st' he hok hpn (hround i st' hI)
 | scope a iha=>
  intro c Q st he hok hpn h
  cases c<;>simp only [b1o,IC.ec,reduceCtorEq] at he
  ·rename_i id ops d; cases d<;>simp [b1o] at he
  ·rename_i x
   simp only [EC.scope.injEq] at he
   exact AWp.scope (iha x _ st he hok hpn h)
 | exit id=>
  intro c Q st he hok hpn h
  cases c<;>simp only [b1o,IC.ec,reduceCtorEq] at he
  ·rename_i id ops d; cases d<;>simp [b1o] at he
  ·simp only [EC.exit.injEq] at he; subst he; exact AWp.exit h
 | label l=>
  intro c Q st he hok hpn h
  cases c<;>simp only [b1o,IC.ec,reduceCtorEq] at he
  ·rename_i id ops d; cases d<;>simp [b1o] at he
  ·exact AWp.label h
 | ret=>
  intro c Q st he hok hpn h
  cases c<;>simp only [b1o,IC.ec,reduceCtorEq] at he
  ·rename_i id ops d; cases d<;>simp [b1o] at he
  ·exact AWp.ret h
def rdv (st:St):X->AV
 | .t n=>st.s n
 | .c v=> .lit v
 | .nl sz=> .own sz 0 []
 | .g n=> .lit (.pointer (some ⟨n,0,none⟩))
 | .f n=> .fn n [] []
def rde (st:St):X->Nat
 | .t n=>st.ep n
 | _=>0
theorem a03 (x:X) (st:St):(a20 x).run st=some ((rdv st x,rde st x),st):=by cases x<;>rfl
section
variable {st:St}
@[go_sem] theorem f6l (n:Nat):rdv st (.t n)=st.s n:=(rfl)
@[go_sem] theorem f6j (v:Value):rdv st (.c v)= .lit v:=(rfl)
@[go_sem] theorem f5f (n:Nat):rdv st (.nl n)= .own n 0 []:=(rfl)
@[go_sem] theorem f6k (n:Nat):rdv st (.g n)= .lit (.pointer (some ⟨n,0,none⟩)):=(rfl)
end
def St.thru (st:St) (N d:Nat) (v:AV):St:=((st.put N v).put N .dead).put d v
section
variable {st:St} {N d u t:Nat} {v:AV}
@[go_sem] theorem f2j:(st.put t v).ep u=if u=t then (if nm v then st.ep t+1 else st.ep u) else st.ep u:=by
 simp only [St.put_ep]; by_cases h:u=t<;>simp [h]
@[go_sem] theorem f2l:(st.thru N d v).s u=if u=d then v else if u=N then .dead else st.s u:=by
 simp only [St.thru,St.put_s]; by_cases h:u=d<;>by_cases h2:u=N<;>simp [h,h2]
@[go_sem] theorem e8u:(st.thru N d v).ep u=if u=d then (if nm v then (if d=N then st.ep N+1 else st.ep d)+1 else st.ep u) else if u=N then (if nm v then st.ep N+1 else st.ep N) else st.ep u:=by
 have hd:nm AV.dead=false:=rfl
 simp only [St.thru,St.put_ep,hd]
 by_cases h1:u=d
 ·subst h1
  by_cases h2:nm v<;>by_cases h3:u=N<;>simp [h2,h3]
 ·by_cases h2:nm v<;>by_cases h3:u=N<;>simp [h1,h2,h3]
@[go_sem] theorem e8o:(st.clear N).s u=if u < N then st.s u else .dead:=(rfl)
@[go_sem] theorem e5i:(st.clear N).ep u=st.ep u:=(rfl)
@[go_sem] theorem f2i {q:List Nat} {o m:Nat}:(st.kill t q o m).s u=a2s (b5h t q o m) (st.s u):=(rfl)
@[go_sem] theorem e8q {q:List Nat} {o m:Nat}:(st.kill t q o m).ep u=st.ep u:=(rfl)
theorem St.ext' {a b:St} (h1:∀ u,a.s u=b.s u) (h2:∀ u,a.ep u=b.ep u):a=b:=by
 cases a; cases b; simp only [St.mk.injEq]; exact ⟨funext h1,funext h2⟩
end
@[go_sem] theorem e48 (sz n:Nat) (ks:List AV):a00 (.own sz n ks)=some ks:=(rfl)
@[go_sem] theorem e49 (ks:List AV):a00 (.var ks)=some ks:=(rfl)
attribute [go_sem] e30 e33 f1e d6t e3z f1f f1d e3w e32 e3y f1c e31 e3x d6u
attribute [go_sem] Option.isSome_some Option.isSome_none b8t b5h List.isPrefixOf a1c a2z a18 a59.noRefL Bool.and_true Bool.true_and Bool.and_false Bool.false_and Bool.false_eq_true Bool.not_true Bool.not_false
section
variable {P:Program} {G:GG} {N:Nat} {K:St->Prop} {Q:Exit->St->Prop} {st:St} {d:Option Nat} {i:IOp} {rest:List AO}
def evS (G:GG) (N:Nat) (d:Option Nat) (i:IOp) (st:St):Option St:=((a1q G N d i).run st).map (·.2)
@[congr] theorem e10 {st':St} (h:st=st'):evS G N d i st=evS G N d i st':=by rw [h]
def oK (o:Option St) (K:St->Prop):Prop:=match o with
 | some st=>K st
 | none=>False
@[congr] theorem e71 {o o':Option St} (h:o=o'):oK o K=oK o' K:=by rw [h]
@[go_sem] theorem f1i:oK (some st) K=K st:=(rfl)
@[congr] theorem d8a {a a':List AO} {st':St} (h:a=a') (h2:st=st'):b12 P G N a K st=b12 P G N a' K st':=by rw [h,h2]
@[congr] theorem e53 {ic:IC} {st':St} (h2:st=st'):AW P G N ic Q st=AW P G N ic Q st':=by rw [h2]
@[go_sem] theorem e57:b12 P G N [] K st=K st:=(rfl)
@[go_sem] theorem e83:b12 P G N (⟨d,.op i,none⟩::rest) K st=oK (evS G N d i st) (b12 P G N rest K):=by
 simp only [b12,b0j,b8i,evS]
 cases (a1q G N d i).run st<;>rfl
@[go_sem] theorem e0o {T t yT:Nat}:b12 P G N (⟨d,.nilq T (.t t) yT,none⟩::rest) K st=nqK (st.s t) d (b12 P G N rest K) st:=(rfl)
theorem f1h {d n:Nat} {ks:List AV} (h:∀ b:Bool,(b=true->ks=[])->K (st.put d (.lit (.bool b)))):nqK (.sl n ks) (some d) K st:=h
def gOp (P:Program) (G:GG) (N:Nat) (v:AV) (want:Bool) (d:Option Nat) (act:IAct) (rest:List AO) (K:St->Prop) (st:St):Prop:=match v with
 | .lit (.bool b)=>if b=want then b12 P G N (⟨d,act,none⟩::rest) K st else b12 P G N rest K (a4j d st)
 | .lit _=>b12 P G N rest K (a4j d st)
 | _=>False
section
variable {act:IAct}
@[congr] theorem e2y {v v':AV} {w:Bool} (h:v=v'):gOp P G N v w d act rest K st=gOp P G N v' w d act rest K st:=by rw [h]
@[go_sem] theorem f4q:gOp P G N (.lit (.bool true)) true d act rest K st=b12 P G N (⟨d,act,none⟩::rest) K st:=(rfl)
@[go_sem] theorem f4p:gOp P G N (.lit (.bool true)) false d act rest K st=b12 P G N rest K (a4j d st):=(rfl)
@[go_sem] theorem f4o:gOp P G N (.lit (.bool false)) true d act rest K st=b12 P G N rest K (a4j d st):=(rfl)
@[go_sem] theorem f4n:gOp P G N (.lit (.bool false)) false d act rest K st=b12 P G N (⟨d,act,none⟩::rest) K st:=(rfl)
@[go_sem] theorem f59 {w:Bool}:gOp P G N (.lit undef) w d act rest K st=b12 P G N rest K (a4j d st):=(rfl)
@[go_sem] theorem f3c {j t:Nat} {want:Bool}:b12 P G N (⟨d,act,some (j,t,want)⟩::rest) K st=gOp P G N (st.s t) want d act rest K st:=by
 simp only [b12,b0j,gOp]
 cases st.s t<;>try rfl
 rename_i v
 cases v<;>simp [b8x,b12,b0j]
end
theorem c2k {act:IAct} {b w:Bool} (h1:b=w->b12 P G N (⟨d,act,none⟩::rest) K st) (h2:b= !w->b12 P G N rest K (a4j d st)):gOp P G N (.lit (.bool b)) w d act rest K st:=by
 cases b<;>cases w<;>first | exact h1 rfl | exact h2 rfl
@[go_sem] theorem e0e {t:Nat}:a4j (some t) st=st.put t (.lit undef):=(rfl)
@[go_sem] theorem e80:AW P G N .skip Q st=Q .normal st:=(rfl)
@[go_sem] theorem f28 {ios:List AO}:AW P G N (.reg ios) Q st=b12 P G N ios (Q .normal) st:=(rfl)
@[go_sem] theorem f3a {a b:IC}:AW P G N (.seq a b) Q st=AW P G N a (b1z (AW P G N b Q) Q) st:=(rfl)
@[go_sem] theorem e52 {id:Nat} {a:IC}:AW P G N (.block id a) Q st=AW P G N a (b13 id Q) st:=(rfl)
@[go_sem] theorem e55 {a:IC}:AW P G N (.scope a) Q st=AW P G N a (b45 Q) st:=(rfl)
@[go_sem] theorem e8z {id:Nat}:AW P G N (.exit id) Q st=Q (.exit id) st:=(rfl)
@[go_sem] theorem e54 {id:Nat}:AW P G N (.label id) Q st=Q .normal st:=(rfl)
@[go_sem] theorem f29:AW P G N .ret Q st=Q .ret st:=(rfl)
def cAW (P:Program) (G:GG) (N:Nat) (v:AV) (x y:IC) (Q:Exit->St->Prop) (st:St):Prop:=match v with
 | .lit (.bool b)=>if b=true then AW P G N x Q st else AW P G N y Q st
 | _=>False
section
variable {x y:IC}
@[congr] theorem e1c {v v':AV} (h:v=v'):cAW P G N v x y Q st=cAW P G N v' x y Q st:=by rw [h]
@[go_sem] theorem f5o:cAW P G N (.lit (.bool true)) x y Q st=AW P G N x Q st:=(rfl)
@[go_sem] theorem f5n:cAW P G N (.lit (.bool false)) x y Q st=AW P G N y Q st:=(rfl)
@[go_sem] theorem e8y {t:Nat}:AW P G N (.cond (.t t) x y) Q st=cAW P G N (if t < N then st.s t else .dead) x y Q st:=by
 simp only [AW,d1y]
 by_cases h:t < N
 ·simp only [h,if_true]
  cases hs:st.s t<;>simp only [cAW]
  rename_i v
  cases v<;>simp only [cAW]
  rename_i b
  cases b<;>simp
 ·simp [h,cAW]
end
@[go_sem] theorem f2r:b1z K Q .normal st=K st:=(rfl)
@[go_sem] theorem f2q {id:Nat}:b1z K Q (.exit id) st=Q (.exit id) st:=(rfl)
@[go_sem] theorem f2s:b1z K Q .ret st=Q .ret st:=(rfl)
@[go_sem] theorem e6m {id:Nat}:b13 id Q .normal st=Q .normal st:=(rfl)
@[go_sem] theorem e6n {id:Nat}:b13 id Q .ret st=Q .ret st:=(rfl)
@[go_sem] theorem e6l {id id':Nat}:b13 id Q (.exit id') st=if id'=id then Q .normal st else Q (.exit id') st:=(rfl)
@[go_sem] theorem e35:b45 Q .normal st=Q .normal st:=(rfl)
@[go_sem] theorem e36:b45 Q .ret st=Q .ret st:=(rfl)
@[go_sem] theorem e34 {id:Nat}:b45 Q (.exit id) st=Q (.exit id) st:=(rfl)
end
def gO {α:Type} (p:Prop) [Decidable p] (o:Option α):Option α:=if p then o else none
theorem e2x {α:Type} {p:Prop} [Decidable p] {o:Option α} (h:p):gO p o=o:=by simp [gO,h]
@[congr] theorem e69 {α:Type} {p p':Prop} [Decidable p] [Decidable p'] {o:Option α} (h:p=p'):gO p o=gO p' o:=by subst h; simp only [gO]; split<;>rfl
@[go_sem] theorem f0c {α:Type} [Decidable True] {o:Option α}:gO True o=o:=by simp [gO]
def b9j (st:St) (d:Nat) (o:Option AV):Option St:=match o with
 | some v=>some (st.put d v)
 | none=>none
@[congr] theorem d91 {st:St} {d:Nat} {o o':Option AV} (h:o=o'):b9j st d o=b9j st d o':=by rw [h]
@[go_sem] theorem e4p {st:St} {d:Nat} {v:AV}:b9j st d (some v)=some (st.put d v):=(rfl)
section
variable {G:GG} {N d:Nat} {st:St}
def mvS (st:St) (d:Nat) (x:X) (v:AV):Option St:=match v with
 | .own _ n _=>match x with
  | .t t=>some (st.put d (.bor t [] 0 n (st.ep t)))
  | _=>some (st.put d (.sl 0 []))
 | .var _=>match x with
  | .t t=>some (st.put d (.ref t [] 0 (st.ep t)))
  | _=>none
 | .dead=>none
 | v=>if a04 v then some (st.put d v) else match x with
  | .t t=>some ((st.set t (frz v)).put d (frz v))
  | _=>none
@[congr] theorem e3u {x:X} {v v':AV} (h:v=v'):mvS st d x v=mvS st d x v':=by rw [h]
@[go_sem] theorem f4h (x:X):evS G N (some d) (.mv x) st=mvS st d x (rdv st x):=by
 simp only [evS,a1q,mvE,Ev.run_bind,a03,Option.bind]
 cases x<;>simp only [rdv,rde,mvS,Ev.run_bind,Ev.run,setD,a3w,Option.map,a04,if_true]
 rename_i t
 cases h:st.s t<;>simp only [mvS,Ev.run,Ev.run_bind,setD,a3w,b5c,b8m,Option.bind]<;>(try rfl)
 all_goals (generalize a04 _=b; cases b<;>rfl)
@[go_sem] theorem f07 {t n sz:Nat} {ks:List AV}:mvS st d (.t t) (.own sz n ks)=some (st.put d (.bor t [] 0 n (st.ep t))):=(rfl)
@[go_sem] theorem f09 {t:Nat} {ks:List AV}:mvS st d (.t t) (.var ks)=some (st.put d (.ref t [] 0 (st.ep t))):=(rfl)
@[go_sem] theorem f06 {x:X} {v:Value}:mvS st d x (.lit v)=some (st.put d (.lit v)):=(rfl)
@[go_sem] theorem f5b {x:X} {n:Nat} {ks:List AV}:mvS st d x (.sl n ks)=some (st.put d (.sl n ks)):=(rfl)
@[go_sem] theorem f5a {x:X} {n:Nat} {ks:List AV}:mvS st d x (.ip ks n)=some (st.put d (.ip ks n)):=(rfl)
def iO (b:Bool) (x y:Option St):Option St:=if b then x else y
@[congr] theorem e7c {b b':Bool} {x y:Option St} (h:b=b'):iO b x y=iO b' x y:=by rw [h]
@[go_sem] theorem f61 {x y:Option St}:iO true x y=x:=(rfl)
@[go_sem] theorem f60 {x y:Option St}:iO false x y=y:=(rfl)
@[go_sem] theorem f08 {t:Nat} {ks:List AV}:mvS st d (.t t) (.tup ks)=iO (a1c ks) (some (st.put d (.tup ks))) (some ((st.set t (.tup (a2z ks))).put d (.tup (a2z ks)))):=(rfl)
@[go_sem] theorem f05 {t:Nat} {T:TypeId} {k:AV}:mvS st d (.t t) (.ifc T k)=iO (a04 k) (some (st.put d (.ifc T k))) (some ((st.set t (.ifc T (frz k))).put d (.ifc T (frz k)))):=(rfl)
def d4i (st:St) (N d t:Nat) (q:List Nat) (lo n:Nat) (k:Option AV):Option St:=match k with
 | some (.own sz n0 ks)=>gO (t < N/\lo+n<=n0) (iO (q.isEmpty&&lo==0) (some ((st.put t .dead).thru N d (.own sz n (ks.take (n*sz))))) (some ((st.set t (a0x (st.s t) q (frz (.own sz n0 ks)))).put d (.sl n (((a2z ks).drop (lo*sz)).take (n*sz))))))
 | _=>none
@[congr] theorem d8b {t:Nat} {q:List Nat} {lo n:Nat} {k k':Option AV} (h:k=k'):d4i st N d t q lo n k=d4i st N d t q lo n k':=by rw [h]
@[go_sem] theorem e6b {t:Nat} {q:List Nat} {lo n sz n0:Nat} {ks:List AV}:d4i st N d t q lo n (some (.own sz n0 ks))=gO (t < N/\lo+n<=n0) (iO (q.isEmpty&&lo==0) (some ((st.put t .dead).thru N d (.own sz n (ks.take (n*sz))))) (some ((st.set t (a0x (st.s t) q (frz (.own sz n0 ks)))).put d (.sl n (((a2z ks).drop (lo*sz)).take (n*sz)))))):=(rfl)
def a3m (st:St) (t:Nat) (q:List Nat) (e:Nat):Option AV:=if e=st.ep t then a0h (st.s t) q else none
def eN (b:Bool) (k:Option AV):Option AV:=if b then k else none
@[go_sem] theorem f6y (k:Option AV):eN true k=k:=(rfl)
@[go_sem] theorem e6o {t:Nat} {q:List Nat} {e:Nat}:a3m st t q e=eN (e==st.ep t) (a0h (st.s t) q):=by
 simp only [a3m,eN]; by_cases h:e=st.ep t<;>simp [h]
@[congr] theorem e6r {b b':Bool} {k k':Option AV} (h:b=b') (h2:k=k'):eN b k=eN b' k':=by rw [h,h2]
@[go_sem] theorem d9u {v:AV}:a0h v []=some v:=(rfl)
def c98 (k:Option AV) (q:List Nat):Option AV:=match k with
 | some k=>a0h k q
 | none=>none
@[go_sem] theorem d9x {k:AV} {q:List Nat}:c98 (some k) q=a0h k q:=(rfl)
@[go_sem] theorem d9v {sz n i:Nat} {ks:List AV} {q:List Nat}:a0h (.own sz n ks) (i::q)=c98 ks[i]? q:=by
 simp only [a0h,a00,c98]
 cases ks[i]? <;>rfl
@[go_sem] theorem d9w {i:Nat} {ks:List AV} {q:List Nat}:a0h (.var ks) (i::q)=c98 ks[i]? q:=by
 simp only [a0h,a00,c98]
 cases ks[i]? <;>rfl
@[go_sem] theorem d7n {v k:AV}:a0x v [] k=k:=(rfl)
def e5j (k:Option AV) (q:List Nat) (k':AV):AV:=match k with
 | some k=>a0x k q k'
 | none=> .dead
@[go_sem] theorem e5k {k k':AV} {q:List Nat}:e5j (some k) q k'=a0x k q k':=(rfl)
theorem c5k {ks:List AV} {i:Nat} {v:AV} (h:ks[i]? =none):ks.set i v=ks:=by
 apply List.set_eq_of_length_le; simpa using h
@[go_sem] theorem d7o {sz n i:Nat} {ks:List AV} {q:List Nat} {k':AV}:a0x (.own sz n ks) (i::q) k'= .own sz n (ks.set i (e5j ks[i]? q k')):=by
 simp only [a0x,a00,e5j]
 cases h:ks[i]? with
 | none=>simp [c5k h]
 | some k=>rfl
@[go_sem] theorem d7p {i:Nat} {ks:List AV} {q:List Nat} {k':AV}:a0x (.var ks) (i::q) k'= .var (ks.set i (e5j ks[i]? q k')):=by
 simp only [a0x,a00,e5j]
 cases h:ks[i]? with
 | none=>simp [c5k h]
 | some k=>rfl
def e88 (st:St) (N d:Nat) (x:X) (v:AV):Option St:=if a04 v then some (st.put d v) else match x with
  | .t t=>some ((st.put t .dead).thru N d v)
  | _=>some (st.thru N d v)
def c3t (st:St) (N d:Nat) (x:X) (v:AV):Option St:=match v with
 | .dead=>none
 | .bor t q lo n e=>d4i st N d t q lo n (a3m st t q e)
 | v=>e88 st N d x v
@[congr] theorem d8d {x:X} {v v':AV} (h:v=v'):c3t st N d x v=c3t st N d x v':=by rw [h]
theorem b4c {v:AV}:(a43 N (some d) v).run st=some ((),st.thru N d v):=rfl
@[go_sem] theorem d52 (x:X):evS G N (some d) (.asg x) st=c3t st N d x (rdv st x):=by
 have key:∀ (v:AV) (e:Nat),((match v with
   | .dead=>Ev.fail
   | .bor t q lo n e=>do
    let r2<-b4x t
    a0o (e==r2.2&&decide (t < N))
    let k<-a4z (a0h r2.1 q)
    match k with
    | .own sz n0 ks=>do
     a0o (decide (lo+n<=n0))
     if q.isEmpty&&lo==0 then do
      a3w t .dead
      a43 N (some d) (.own sz n (ks.take (n*sz)))
     else do
      b5c t (a0x r2.1 q (frz k))
      setD (some d) (.sl n (((a2z ks).drop (lo*sz)).take (n*sz)))
    | _=> .fail
   | v=>b0m N (some d) x v:Ev Unit).run st).map (·.2)=c3t st N d x v:=by
  intro v e
  have tail:∀ v:AV,(∀ t q lo n e,v≠ .bor t q lo n e)->v≠ .dead->((b0m N (some d) x v).run st).map (·.2)=e88 st N d x v:=by
   intro v _ _
   cases x<;>simp only [b0m,e88]<;>(split<;>rfl)
  cases v<;>(try (exact tail _ (by simp) (by simp)))
  ·rfl
  ·rename_i t q lo n e'
   simp only [c3t,a3m,Ev.run_bind,a2j,Option.bind]
   by_cases he:e'=st.ep t
   ·subst he
    by_cases ht:t < N
    ·simp only [beq_self_eq_true,ht,decide_true,Bool.and_self,a0o,if_true,Ev.run,a1b]
     cases hk:a0h (st.s t) q with
     | none=>rfl
     | some k=>
      simp only [Option.map]
      cases k<;>try rfl
      rename_i sz n0 ks
      simp only [d4i,gO,iO,ht,true_and,Ev.run_bind,a0j,Option.bind]
      by_cases hl:lo+n<=n0
      ·simp only [hl,decide_true,if_true]
       generalize (q.isEmpty&&lo==0)=b
       cases b<;>rfl
      ·simp only [hl,decide_false,Bool.false_eq_true,if_false]
       rfl
    ·simp only [ht,decide_false,Bool.and_false,a0o,Bool.false_eq_true,if_false,Ev.run,if_true]
     cases a0h (st.s t) q with
     | none=>rfl
     | some k=>cases k<;>simp [d4i,gO,ht]
   ·have:(e'==st.ep t)=false:=by simpa using he
    simp only [this,Bool.false_and,a0o,Bool.false_eq_true,if_false,Ev.run,he,d4i,Option.map]
 simp only [evS,a1q,d8c,Ev.run_bind,a03,Option.bind]
 exact key _ 0
@[go_sem] theorem e91 (x:X):evS G N (some d) (.mva x) st=c3t st N d x (rdv st x):=d52 (G:=G) x
@[go_sem] theorem e6e {x:X} {v:Value}:c3t st N d x (.lit v)=some (st.put d (.lit v)):=(rfl)
@[go_sem] theorem e87 {x:X} {n:Nat} {ks:List AV}:c3t st N d x (.sl n ks)=some (st.put d (.sl n ks)):=(rfl)
@[go_sem] theorem e85 {x:X} {n:Nat} {ks:List AV}:c3t st N d x (.ip ks n)=some (st.put d (.ip ks n)):=(rfl)
@[go_sem] theorem e6c {x:X} {t:Nat} {q:List Nat} {lo n e:Nat}:c3t st N d x (.bor t q lo n e)=d4i st N d t q lo n (a3m st t q e):=(rfl)
@[go_sem] theorem e6f {t sz n:Nat} {ks:List AV}:c3t st N d (.t t) (.own sz n ks)=some ((st.put t .dead).thru N d (.own sz n ks)):=(rfl)
@[go_sem] theorem e86 {k sz n:Nat} {ks:List AV}:c3t st N d (.nl k) (.own sz n ks)=some (st.thru N d (.own sz n ks)):=(rfl)
@[go_sem] theorem e6h {t:Nat} {ks:List AV}:c3t st N d (.t t) (.var ks)=some ((st.put t .dead).thru N d (.var ks)):=(rfl)
@[go_sem] theorem e6g {t:Nat} {ks:List AV}:c3t st N d (.t t) (.tup ks)=iO (a1c ks) (some (st.put d (.tup ks))) (some ((st.put t .dead).thru N d (.tup ks))):=(rfl)
@[go_sem] theorem e6d {t:Nat} {T:TypeId} {k:AV}:c3t st N d (.t t) (.ifc T k)=iO (a04 k) (some (st.put d (.ifc T k))) (some ((st.put t .dead).thru N d (.ifc T k))):=(rfl)
@[go_sem] theorem e9t {b:BinOp} {T kd:Nat} {x y:X} {yT:TypeId}:evS G N (some d) (.bin b T kd x y yT) st=b9j st d (a6v b kd (rdv st x) (rdv st y)):=by
 simp only [evS,a1q,Ev.run_bind,a03,Option.bind,a1b]
 cases a6v b kd (rdv st x) (rdv st y)<;>rfl
theorem a9o (x:X):(c1a x).run st=match rdv st x with | .lit v=>some (v,st) | _=>none:=by
 simp only [c1a,Ev.run_bind,a03,Option.bind]
 cases rdv st x<;>rfl
def d9p (v:AV):Option Value:=match v with | .lit v=>some v | _=>none
@[go_sem] theorem e7l {v:Value}:d9p (.lit v)=some v:=(rfl)
theorem c3j (x:X):(c1a x).run st=(d9p (rdv st x)).map fun v=>(v,st):=by
 rw [a9o]; cases rdv st x<;>rfl
def unO (u:UnOp) (v:AV):Option AV:=match v with
 | .lit v=>(a90 (Op.unary u v)).map .lit
 | _=>none
@[congr] theorem e50 {u:UnOp} {v v':AV} (h:v=v'):unO u v=unO u v':=by rw [h]
@[go_sem] theorem f4i {u:UnOp} {T:TypeId} {x:X}:evS G N (some d) (.un u T x) st=b9j st d (unO u (rdv st x)):=by
 simp only [evS,a1q,Ev.run_bind,a9o,Option.bind]
 cases rdv st x<;>try rfl
 rename_i v
 simp only [unO,a1b]
 cases a90 (Op.unary u v)<;>rfl
@[go_sem] theorem f2z {b:Bool}:unO .not (.lit (.bool b))=some (.lit (.bool !b)):=(rfl)
def d3h (c x y:AV):Option AV:=match c with
 | .lit c=>c6g c x y
 | _=>none
@[go_sem] theorem e60 {c x y:X}:evS G N (some d) (.pick c x y) st=b9j st d (d3h (rdv st c) (rdv st x) (rdv st y)):=by
 simp only [evS,a1q,Ev.run_bind,a9o,Option.bind,a03]
 cases rdv st c<;>try rfl
 simp only [a03,d3h,a1b]
 rename_i v
 cases c6g v (rdv st x) (rdv st y)<;>rfl
@[go_sem] theorem f1o {u:Value} {y:AV}:d3h (.lit (.bool true)) (.lit u) y=some (.lit u):=by cases y<;>rfl
@[go_sem] theorem f1n {u:Value} {x:AV}:d3h (.lit (.bool false)) x (.lit u)=some (.lit u):=by cases x<;>rfl
@[go_sem] theorem e1y {T:TypeId} {zs:List AV}:evS G N (some d) (.alloc T zs) st=some (st.thru N d (.var zs)):=(rfl)
def d9k (lo n:Nat) (k:Option AV):Option AV:=match k with
 | some (.own _ n0 _)=>gO (lo+n<=n0) (some (.lit (.int .i64 n)))
 | _=>none
@[congr] theorem d9l {lo n:Nat} {k k':Option AV} (h:k=k'):d9k lo n k=d9k lo n k':=by rw [h]
@[go_sem] theorem e7h {lo n sz n0:Nat} {ks:List AV}:d9k lo n (some (.own sz n0 ks))=gO (lo+n<=n0) (some (.lit (.int .i64 n))):=(rfl)
def d6j (st:St) (x:X) (v:AV):Option AV:=match v with
 | .sl n _=>some (.lit (.int .i64 n))
 | .own _ n _=>some (.lit (.int .i64 n))
 | .bor t q lo n e=>d9k lo n (a3m st t q e)
 | _=>none
@[congr] theorem d9m {x:X} {v v':AV} (h:v=v'):d6j st x v=d6j st x v':=by rw [h]
theorem c15 {t:Nat} {q:List Nat} {e:Nat} (h:e=st.ep t):a3m st t q e=a0h (st.s t) q:=by simp [a3m,h]
theorem c14 {t:Nat} {q:List Nat} {e:Nat} (h:¬ e=st.ep t):a3m st t q e=none:=by simp [a3m,h]
@[go_sem] theorem e9y {T:TypeId} {x:X}:evS G N (some d) (.len T false x) st=b9j st d (d6j st x (rdv st x)):=by
 simp only [evS,a1q,Ev.run_bind,a03,Option.bind]
 cases hv:rdv st x<;>simp only [a8h,Ev.run_bind,a03,hv,Option.bind,Ev.run]<;>try rfl
 rename_i t q lo n e
 simp only [d6j,a2j]
 by_cases he:e=st.ep t
 ·simp only [he,beq_self_eq_true,a0o,if_true,Ev.run,Ev.run_pure,c97,Ev.run_bind,a2j,Option.bind,a1b,c15]
  cases hk:a0h (st.s t) q with
  | none=>rfl
  | some k=>
   cases k<;>try rfl
   rename_i sz n0 ks
   simp only [d9k,gO,Option.map,Ev.run_bind,a0j,Option.bind]
   by_cases hl:lo+n<=n0
   ·simp only [hl,decide_true,if_true]; rfl
   ·simp only [hl,decide_false,Bool.false_eq_true,if_false]; rfl
 ·have:(e==st.ep t)=false:=by simpa using he
  simp only [this,a0o,Bool.false_eq_true,if_false,Ev.run,c14 he]
  rfl
@[go_sem] theorem f0u {x:X} {n:Nat} {ks:List AV}:d6j st x (.sl n ks)=some (.lit (.int .i64 n)):=(rfl)
@[go_sem] theorem e7j {x:X} {sz n:Nat} {ks:List AV}:d6j st x (.own sz n ks)=some (.lit (.int .i64 n)):=(rfl)
@[go_sem] theorem e7i {x:X} {t:Nat} {q:List Nat} {lo n e:Nat}:d6j st x (.bor t q lo n e)=d9k lo n (a3m st t q e):=(rfl)
@[go_sem] theorem e43 {v:AV}:a4m v []=a00 v:=by cases v<;>rfl
def e46 (k:Option AV) (q:List Nat):Option (List AV):=match k with
 | some k=>a4m k q
 | none=>none
@[go_sem] theorem e47 {k:AV} {q:List Nat}:e46 (some k) q=a4m k q:=(rfl)
@[go_sem] theorem e44 {sz n i:Nat} {ks:List AV} {q:List Nat}:a4m (.own sz n ks) (i::q)=e46 ks[i]? q:=by
 simp only [a4m,a00,e46]; cases ks[i]? <;>rfl
@[go_sem] theorem e45 {i:Nat} {ks:List AV} {q:List Nat}:a4m (.var ks) (i::q)=e46 ks[i]? q:=by
 simp only [a4m,a00,e46]; cases ks[i]? <;>rfl
@[go_sem] theorem e0c {sz n:Nat} {ks ks':List AV}:setRow (.own sz n ks) [] ks'= .own sz n ks':=(rfl)
@[go_sem] theorem e0d {ks ks':List AV}:setRow (.var ks) [] ks'= .var ks':=(rfl)
def d7q (k:Option AV) (q:List Nat) (ks':List AV):AV:=match k with
 | some k=>setRow k q ks'
 | none=> .dead
@[go_sem] theorem e0b {k:AV} {q:List Nat} {ks':List AV}:d7q (some k) q ks'=setRow k q ks':=(rfl)
@[go_sem] theorem d7r {i:Nat} {ks:List AV} {q:List Nat} {ks':List AV}:setRow (.var ks) (i::q) ks'= .var (ks.set i (d7q ks[i]? q ks')):=by
 simp only [setRow,a00,d7q]
 cases h:ks[i]? with
 | none=>simp [c5k h]
 | some k=>rfl
def eR (b:Bool) (k:Option (List AV)):Option (List AV):=if b then k else none
@[congr] theorem e6s {b b':Bool} {k k':Option (List AV)} (h:b=b') (h2:k=k'):eR b k=eR b' k':=by rw [h,h2]
@[go_sem] theorem f6z (k:Option (List AV)):eR true k=k:=(rfl)
def ptO (t:Nat) (q:List Nat) (o:Nat) (r:Option (List AV)):Option (Nat×List Nat×Nat×List AV):=match r with
 | some ks=>gO (o < ks.length) (some (t,q,o,ks))
 | none=>none
@[go_sem] theorem e8b {t:Nat} {q:List Nat} {o:Nat} {ks:List AV}:ptO t q o (some ks)=gO (o < ks.length) (some (t,q,o,ks)):=(rfl)
def b07 (st:St) (x:X) (v:AV):Option (Nat×List Nat×Nat×List AV):=match v with
 | .var ks=>match x with
  | .t t=>ptO t [] 0 (some ks)
  | _=>none
 | .ref t q o e=>ptO t q o (eR (e==st.ep t) (a4m (st.s t) q))
 | _=>none
@[congr] theorem d99 {x:X} {v v':AV} (h:v=v'):b07 st x v=b07 st x v':=by rw [h]
@[go_sem] theorem e8m {t:Nat} {ks:List AV}:b07 st (.t t) (.var ks)=gO (0 < ks.length) (some (t,[],0,ks)):=(rfl)
@[go_sem] theorem e8l {x:X} {t:Nat} {q:List Nat} {o e:Nat}:b07 st x (.ref t q o e)=ptO t q o (eR (e==st.ep t) (a4m (st.s t) q)):=(rfl)
theorem b4b (x:X):(c77 x).run st=(b07 st x (rdv st x)).map fun r=>((r.1,r.2.1,r.2.2.1,st.s r.1,st.ep r.1,r.2.2.2),st):=by
 simp only [c77,c6y,Ev.run_bind,a03,Option.bind]
 cases x with
 | t n=>
  simp only [rdv]
  cases hv:st.s n<;>simp only [b8m,Ev.run,Ev.run_bind,Ev.run_pure,Option.bind,a2j,b07,a1b,Option.map]<;>try rfl
  ·rename_i ks
   have h2:a4m (AV.var ks) []=some ks:=rfl
   simp only [hv,h2,ptO,gO,a0j]
   by_cases hl:0 < ks.length
   ·simp only [hl,decide_true,if_true,hv]
   ·simp only [hl,decide_false,Bool.false_eq_true,if_false]
  ·rename_i t q o e
   by_cases he:e=st.ep t
   ·simp only [he,beq_self_eq_true,a0o,if_true,Ev.run,Ev.run_pure,eR]
    cases hk:a4m (st.s t) q with
    | none=>rfl
    | some ks=>
     simp only [ptO,gO]
     by_cases hl:o < ks.length
     ·simp only [hl,decide_true,if_true,Ev.run]
     ·simp only [hl,decide_false,Bool.false_eq_true,if_false,Ev.run]
   ·have:(e==st.ep t)=false:=by simpa using he
    simp only [this,a0o,Bool.false_eq_true,if_false,Ev.run,eR,ptO]
 | c v=>rfl
 | nl n=>rfl
 | g n=>rfl
 | f n=>rfl
def ldK (st:St) (t:Nat) (q:List Nat) (o:Nat) (k:Option AV):Option AV:=match k with
 | some (.own _ n _)=>some (.bor t (q++[o]) 0 n (st.ep t))
 | some (.mp _ _)=>some (.bor t (q++[o]) 0 0 (st.ep t))
 | some k=>if a04 k then some k else none
 | none=>none
@[congr] theorem e3b {t:Nat} {q:List Nat} {o:Nat} {k k':Option AV} (h:k=k'):ldK st t q o k=ldK st t q o k':=by rw [h]
section
variable {t:Nat} {q:List Nat} {o:Nat}
@[go_sem] theorem f0t {sz n:Nat} {ks:List AV}:ldK st t q o (some (.own sz n ks))=some (.bor t (q++[o]) 0 n (st.ep t)):=(rfl)
@[go_sem] theorem f4x {a:List Int} {b:List AV}:ldK st t q o (some (.mp a b))=some (.bor t (q++[o]) 0 0 (st.ep t)):=(rfl)
@[go_sem] theorem f0s {v:Value}:ldK st t q o (some (.lit v))=some (.lit v):=(rfl)
@[go_sem] theorem f4y {n:Nat} {ks:List AV}:ldK st t q o (some (.sl n ks))=some (.sl n ks):=(rfl)
end
def ldS (st:St) (d:Nat) (r:Option (Nat×List Nat×Nat×List AV)):Option St:=match r with
 | some (t,q,o,ks)=>b9j st d (ldK st t q o ks[o]?)
 | none=>none
@[congr] theorem e3c {r r':Option (Nat×List Nat×Nat×List AV)} (h:r=r'):ldS st d r=ldS st d r':=by rw [h]
@[go_sem] theorem e7g {t:Nat} {q:List Nat} {o:Nat} {ks:List AV}:ldS st d (some (t,q,o,ks))=b9j st d (ldK st t q o ks[o]?):=(rfl)
def ipK (k:Option AV):Option AV:=match k with
 | some k=>if a04 k then some k else none
 | none=>none
@[go_sem] theorem f0r {v:Value}:ipK (some (.lit v))=some (.lit v):=(rfl)
@[go_sem] theorem f4w {n:Nat} {ks:List AV}:ipK (some (.sl n ks))=some (.sl n ks):=(rfl)
def c2y (G:GG) (st:St) (d:Nat) (x:X) (v:AV):Option St:=match v with
 | .lit (.pointer (some ⟨g,0,none⟩))=>b9j st d ((G g).map .lit)
 | .ip ks off=>b9j st d (ipK ks[off]?)
 | v=>ldS st d (b07 st x v)
@[congr] theorem d6l {x:X} {v v':AV} (h:v=v'):c2y G st d x v=c2y G st d x v':=by rw [h]
theorem d0u (x:X):((c2x (some d) none x).run st).map (·.2)=ldS st d (b07 st x (rdv st x)):=by
 simp only [c2x,Ev.run_bind,b4b,Option.bind,ldS]
 cases b07 st x (rdv st x) with
 | none=>rfl
 | some r=>
  obtain ⟨t,q,o,ks⟩:=r
  simp only [Option.map,a1b]
  cases ks[o]? with
  | none=>rfl
  | some k=>
   simp only
   cases k<;>simp only [b3l,ldK,Ev.run_bind,a0j,Option.bind]<;>first | rfl | (generalize a04 _=b; cases b<;>rfl)
@[go_sem] theorem e6x {T:TypeId} {x:X}:evS G N (some d) (.load T none x) st=c2y G st d x (rdv st x):=by
 simp only [evS,a1q,Ev.run_bind,a03,Option.bind]
 have h:=d0u (d:=d) (st:=st) x
 cases hv:rdv st x<;>rw [hv] at h<;>try exact h
 ·rename_i v
  unfold c2y
  split<;>split<;>simp_all
  generalize G _=r
  cases r<;>rfl
 ·rename_i ks off
  simp only [c2y,Ev.run_bind,a1b,Option.bind,Option.map]
  cases ks[off]? with
  | none=>rfl
  | some k=>
   simp only [Ev.run_bind,a0j,Option.bind,ipK]
   generalize a04 k=b
   cases b<;>rfl
@[go_sem] theorem f0y {x:X} {g:Nat}:c2y G st d x (.lit (.pointer (some ⟨g,0,none⟩)))=b9j st d ((G g).map .lit):=(rfl)
@[go_sem] theorem e7n {x:X} {ks:List AV} {off:Nat}:c2y G st d x (.ip ks off)=b9j st d (ipK ks[off]?):=(rfl)
@[go_sem] theorem e3f {x:X} {t:Nat} {q:List Nat} {o e:Nat}:c2y G st d x (.ref t q o e)=ldS st d (b07 st x (.ref t q o e)):=(rfl)
def lmS (st:St) (d s:Nat) (r:Option (Nat×List Nat×Nat×List AV)):Option St:=match r with
 | some (t,q,o,ks)=>gO (o+s<=ks.length) (iO (a1c ((ks.drop o).take s)) (some (st.put d (.agg ((ks.drop o).take s)))) (some ((st.set t (setRow (st.s t) q (a0f ks o (a2z ((ks.drop o).take s))))).put d (.agg (a2z ((ks.drop o).take s))))))
 | none=>none
@[congr] theorem e3d {s:Nat} {r r':Option (Nat×List Nat×Nat×List AV)} (h:r=r'):lmS st d s r=lmS st d s r':=by rw [h]
@[go_sem] theorem e7m {s t:Nat} {q:List Nat} {o:Nat} {ks:List AV}:lmS st d s (some (t,q,o,ks))=gO (o+s<=ks.length) (iO (a1c ((ks.drop o).take s)) (some (st.put d (.agg ((ks.drop o).take s)))) (some ((st.set t (setRow (st.s t) q (a0f ks o (a2z ((ks.drop o).take s))))).put d (.agg (a2z ((ks.drop o).take s)))))):=(rfl)
def lmX (st:St) (d s:Nat) (x:X) (v:AV):Option St:=match v with
 | .ip ks off=>gO (off+s<=ks.length/\a1c ((ks.drop off).take s)=true) (some (st.put d (.agg ((ks.drop off).take s))))
 | v=>lmS st d s (b07 st x v)
@[congr] theorem e3e {s:Nat} {x:X} {v v':AV} (h:v=v'):lmX st d s x v=lmX st d s x v':=by rw [h]
@[go_sem] theorem f47 {s:Nat} {x:X} {ks:List AV} {off:Nat}:lmX st d s x (.ip ks off)=gO (off+s<=ks.length/\a1c ((ks.drop off).take s)=true) (some (st.put d (.agg ((ks.drop off).take s)))):=(rfl)
@[go_sem] theorem f0x {s:Nat} {x:X} {ks:List AV}:lmX st d s x (.var ks)=lmS st d s (b07 st x (.var ks)):=(rfl)
@[go_sem] theorem f0w {s:Nat} {x:X} {t:Nat} {q:List Nat} {o e:Nat}:lmX st d s x (.ref t q o e)=lmS st d s (b07 st x (.ref t q o e)):=(rfl)
theorem c70 (x:X) (s:Nat):((c2x (some d) (some s) x).run st).map (·.2)=lmS st d s (b07 st x (rdv st x)):=by
 simp only [c2x,Ev.run_bind,b4b,Option.bind,lmS]
 cases b07 st x (rdv st x) with
 | none=>rfl
 | some r=>
  obtain ⟨t,q,o,ks⟩:=r
  simp only [Option.map,Ev.run_bind,a0j,Option.bind,gO]
  by_cases hl:o+s<=ks.length
  ·simp only [hl,decide_true,if_true,iO]
   generalize a1c _=b
   cases b<;>rfl
  ·simp only [hl,decide_false,Bool.false_eq_true,if_false]
@[go_sem] theorem e16 {T:TypeId} {x:X} {s:Nat}:evS G N (some d) (.load T (some s) x) st=lmX st d s x (rdv st x):=by
 simp only [evS,a1q,Ev.run_bind,a03,Option.bind]
 have h:=c70 (d:=d) (st:=st) x s
 cases hv:rdv st x<;>rw [hv] at h<;>try exact h
 ·split<;>simp_all<;>rfl
 rename_i ks off
 simp only [lmX,Ev.run_bind,a0j,Option.bind,Option.map,gO]
 by_cases hl:off+s<=ks.length
 ·simp only [hl,decide_true,Bool.true_and,true_and]
  generalize a1c _=b
  cases b<;>rfl
 ·simp only [hl,decide_false,Bool.false_and,Bool.false_eq_true,if_false,false_and]
def d6s (st:St) (d:Nat) (x:X) (v:AV):Option St:=match v with
 | .ip ks o=>some (st.put d (.ip ks o))
 | .fn f a b=>some (st.put d (.fn f a b))
 | v=>match b07 st x v with
  | some (t,q,o,ks)=>some (st.put d (.ref t q o (st.ep t)))
  | none=>none
def d3d (st:St) (d off:Nat) (r:Option (Nat×List Nat×Nat×List AV)):Option St:=match r with
 | some (t,q,o,ks)=>some (st.put d (.ref t q (o+off) (st.ep t)))
 | none=>none
@[congr] theorem d9s {off:Nat} {r r':Option (Nat×List Nat×Nat×List AV)} (h:r=r'):d3d st d off r=d3d st d off r':=by rw [h]
@[go_sem] theorem e3v {off t:Nat} {q:List Nat} {o:Nat} {ks:List AV}:d3d st d off (some (t,q,o,ks))=some (st.put d (.ref t q (o+off) (st.ep t))):=(rfl)
@[congr] theorem d9t {x:X} {v v':AV} (h:v=v'):d6s st d x v=d6s st d x v':=by rw [h]
@[go_sem] theorem e18 {x:X}:evS G N (some d) (.nilck x) st=d6s st d x (rdv st x):=by
 simp only [evS,a1q,Ev.run_bind,a03,Option.bind]
 cases hv:rdv st x<;>simp only [d6s,Ev.run_bind,b4b,Option.bind,hv]<;>try rfl
 ·generalize b07 st x _=r; cases r<;>rfl
 ·generalize b07 st x _=r; cases r<;>rfl
@[go_sem] theorem f1a {x:X} {ks:List AV} {o:Nat}:d6s st d x (.ip ks o)=some (st.put d (.ip ks o)):=(rfl)
@[go_sem] theorem e7w {x:X} {t:Nat} {q:List Nat} {o e:Nat}:d6s st d x (.ref t q o e)=d3d st d 0 (b07 st x (.ref t q o e)):=by
 simp only [d6s,d3d]; cases b07 st x (.ref t q o e)<;>rfl
def d53 (st:St) (d off:Nat) (x:X) (v:AV):Option St:=match v with
 | .ip ks o=>some (st.put d (.ip ks (o+off)))
 | v=>d3d st d off (b07 st x v)
@[congr] theorem d9g {off:Nat} {x:X} {v v':AV} (h:v=v'):d53 st d off x v=d53 st d off x v':=by rw [h]
@[go_sem] theorem e11 {T:TypeId} {off f:Nat} {x:X}:evS G N (some d) (.faddr T off x f) st=d53 st d off x (rdv st x):=by
 simp only [evS,a1q,Ev.run_bind,a03,Option.bind]
 cases hv:rdv st x<;>simp only [d53,Ev.run_bind,b4b,Option.bind,hv,d3d]<;>try rfl
 ·generalize b07 st x _=r; cases r<;>rfl
 ·generalize b07 st x _=r; cases r<;>rfl
@[go_sem] theorem e94 {off:Nat} {x:X} {ks:List AV} {o:Nat}:d53 st d off x (.ip ks o)=some (st.put d (.ip ks (o+off))):=(rfl)
@[go_sem] theorem e63 {off:Nat} {x:X} {ks:List AV}:d53 st d off x (.var ks)=d3d st d off (b07 st x (.var ks)):=(rfl)
@[go_sem] theorem e62 {off:Nat} {x:X} {t:Nat} {q:List Nat} {o e:Nat}:d53 st d off x (.ref t q o e)=d3d st d off (b07 st x (.ref t q o e)):=(rfl)
end
section
variable {G:GG} {N d:Nat} {st:St}
def d6e (st:St) (N t:Nat) (q:List Nat) (lo n:Nat) (k:Option AV):Option (St×List AV):=match k with
 | some (.own sz n0 ks)=>gO (lo+n<=n0/\t < N) (some (st.set t (a0x (st.s t) q (frz (.own sz n0 ks))),[.sl n (((a2z ks).drop (lo*sz)).take (n*sz))]))
 | _=>none
@[congr] theorem d9i {t:Nat} {q:List Nat} {lo n:Nat} {k k':Option AV} (h:k=k'):d6e st N t q lo n k=d6e st N t q lo n k':=by rw [h]
@[go_sem] theorem e7a {t:Nat} {q:List Nat} {lo n sz n0:Nat} {ks:List AV}:d6e st N t q lo n (some (.own sz n0 ks))=gO (lo+n<=n0/\t < N) (some (st.set t (a0x (st.s t) q (frz (.own sz n0 ks))),[.sl n (((a2z ks).drop (lo*sz)).take (n*sz))])):=(rfl)
def d6f (st:St) (x:X) (ks:List AV):Option (St×List AV):=match x with
 | .t t=>some (st.put t .dead,ks)
 | _=>none
@[go_sem] theorem f4s {t:Nat} {ks:List AV}:d6f st (.t t) ks=some (st.put t .dead,ks):=(rfl)
def f0d (st:St) (x:X) (ks:List AV):Option (St×List AV):=match x with
 | .t t=>some (st.put t .dead,ks)
 | _=>some (st,ks)
@[go_sem] theorem f4r {t:Nat} {ks:List AV}:f0d st (.t t) ks=some (st.put t .dead,ks):=(rfl)
def giv (st:St) (N:Nat) (x:X) (v:AV):Option (St×List AV):=match v with
 | .dead=>none
 | .tup _=>none
 | .ref _ _ _ _=>none
 | .bor t q lo n e=>d6e st N t q lo n (a3m st t q e)
 | .agg ks=>d6f st x ks
 | .own sz n ks=>f0d st x [.own sz n ks]
 | .var ks=>d6f st x [frz (.var ks)]
 | .ifc T k=>d6f st x [frz (.ifc T k)]
 | .mp a b=>d6f st x [.mp a b]
 | .fn f a b=>if a59.noRefL a&&a59.noRefL b then some (st,[.fn f a b]) else none
 | v=>if a59.oneAV v then some (st,[v]) else none
@[congr] theorem e2z {x:X} {v v':AV} (h:v=v'):giv st N x v=giv st N x v':=by rw [h]
theorem b38 (x:X):(a59 x N).run st=(giv st N x (rdv st x)).map fun r=>((),r.1.put N (.agg r.2)):=by
 have hbor:∀ (t:Nat) (q:List Nat) (lo n e:Nat),(do
    let r2<-b4x t
    a0o (e==r2.2)
    let k<-a4z (a0h r2.1 q)
    match k with
    | .own sz n0 ks=>do
     a0o (decide (lo+n<=n0)&&decide (t < N))
     b5c t (a0x r2.1 q (frz k))
     a3w N (.agg [.sl n (((a2z ks).drop (lo*sz)).take (n*sz))])
    | _=> .fail:Ev Unit).run st=(d6e st N t q lo n (a3m st t q e)).map fun r=>((),r.1.put N (.agg r.2)):=by
  intro t q lo n e
  simp only [a3m,Ev.run_bind,a2j,Option.bind]
  by_cases he:e=st.ep t
  ·subst he
   simp only [beq_self_eq_true,a0o,if_true,Ev.run,a1b]
   cases hk:a0h (st.s t) q with
   | none=>rfl
   | some k=>
    simp only [Option.map]
    cases k<;>try rfl
    rename_i sz n0 ks
    simp only [d6e,gO,Ev.run_bind,Option.bind]
    by_cases h1:lo+n<=n0
    ·by_cases h2:t < N
     ·simp only [h1,h2,decide_true,Bool.and_self,if_true,and_self]; rfl
     ·simp only [h1,h2,decide_true,decide_false,Bool.and_false,Bool.false_eq_true,if_false,and_false]; rfl
    ·simp only [h1,decide_false,Bool.false_and,Bool.false_eq_true,if_false,false_and]; rfl
  ·have:(e==st.ep t)=false:=by simpa using he
   simp only [this,a0o,Bool.false_eq_true,if_false,Ev.run,he]
   rfl
 simp only [a59,Ev.run_bind,a03,Option.bind]
 cases x with
 | t n=>
  simp only [rdv]
  cases hv:st.s n<;>simp only [giv]<;>first | exact hbor _ _ _ _ _ | rfl | (simp only [Ev.run_bind,a0j,Option.bind,Option.map]; generalize (a59.noRefL _&&a59.noRefL _)=b; cases b<;>rfl) | (simp only [Ev.run_bind,a0j,Option.bind,Option.map]; generalize a59.oneAV _=b; cases b<;>rfl)
 | c v=>simp only [rdv,giv,Ev.run_bind,a0j,Option.bind,Option.map]; generalize a59.oneAV _=b; cases b<;>rfl
 | nl n=>rfl
 | g n=>rfl
 | f n=>rfl
def one (b:Bool) (r:Option (St×List AV)):Option (St×List AV):=if b then r else none
@[go_sem] theorem f6e {r:Option (St×List AV)}:one true r=r:=(rfl)
@[go_sem] theorem f0g {x:X} {v:Value}:giv st N x (.lit v)=one v.oneCell' (some (st,[.lit v])):=(rfl)
@[go_sem] theorem f4u {x:X} {n:Nat} {ks:List AV}:giv st N x (.sl n ks)=some (st,[.sl n ks]):=(rfl)
@[go_sem] theorem f0f {x:X} {t:Nat} {q:List Nat} {lo n e:Nat}:giv st N x (.bor t q lo n e)=d6e st N t q lo n (a3m st t q e):=(rfl)
@[go_sem] theorem f0e {x:X} {ks:List AV}:giv st N x (.agg ks)=d6f st x ks:=(rfl)
@[go_sem] theorem f0h {x:X} {sz n:Nat} {ks:List AV}:giv st N x (.own sz n ks)=f0d st x [.own sz n ks]:=(rfl)
@[go_sem] theorem f4t {x:X} {a:List Int} {b:List AV}:giv st N x (.mp a b)=d6f st x [.mp a b]:=(rfl)
attribute [go_sem] Value.oneCell'
theorem b5v {v:AV} (h:nm v=false):(st.put N v).put N .dead=st.put N .dead:=by
 refine St.ext' (fun u=> ?_) (fun u=> ?_)
 ·simp only [St.put_s]; split<;>rfl
 ·have hd:nm AV.dead=false:=rfl
  simp only [St.put_ep,h,hd,Bool.false_eq_true,and_false,if_false]
def d05 (st:St) (N s:Nat) (cs:List AV) (r:Option (Nat×List Nat×Nat×List AV)):Option St:=match r with
 | some (t,q,o,ks)=>gO (cs.length=s/\0 < s/\t < N/\o+s<=ks.length) (iO (a1c cs) (some (st.set t (setRow (st.s t) q (a0f ks o cs)))) (some ((st.kill t q o s).set t (setRow (st.s t) q (a0f ks o cs)))))
 | none=>none
@[congr] theorem e0h {s:Nat} {cs:List AV} {r r':Option (Nat×List Nat×Nat×List AV)} (h:r=r'):d05 st N s cs r=d05 st N s cs r':=by rw [h]
@[go_sem] theorem e5u {s t:Nat} {q:List Nat} {o:Nat} {cs ks:List AV}:d05 st N s cs (some (t,q,o,ks))=gO (cs.length=s/\0 < s/\t < N/\o+s<=ks.length) (iO (a1c cs) (some (st.set t (setRow (st.s t) q (a0f ks o cs)))) (some ((st.kill t q o s).set t (setRow (st.s t) q (a0f ks o cs))))):=(rfl)
def e8v (st:St) (N s:Nat) (x:X) (cs:List AV):Option St:=d05 st N s cs (b07 st x (rdv st x))
@[go_sem] theorem f2n {s:Nat} {x:X} {cs:List AV}:e8v st N s x cs=d05 st N s cs (b07 st x (rdv st x)):=(rfl)
def e5v (N s:Nat) (x:X) (r:Option (St×List AV)):Option St:=match r with
 | some (st1,cs)=>e8v (st1.put N .dead) N s x cs
 | none=>none
@[congr] theorem e0i {s:Nat} {x:X} {r r':Option (St×List AV)} (h:r=r'):e5v N s x r=e5v N s x r':=by rw [h]
@[go_sem] theorem e5w {s:Nat} {x:X} {cs:List AV}:e5v N s x (some (st,cs))=e8v (st.put N .dead) N s x cs:=(rfl)
theorem d06 {s:Nat} {cs:List AV} {r:Option (Nat×List Nat×Nat×List AV)} (h:∀ p,r=some p->¬ p.1 < N):d05 st N s cs r=none:=by
 cases r with
 | none=>rfl
 | some p=>
  obtain ⟨t,q,o,ks⟩:=p
  have:=h _ rfl
  simp only [d05,gO]
  rw [if_neg]
  rintro ⟨_,_,h1,_⟩
  exact this h1
def f2m (N s t:Nat) (q:List Nat) (o:Nat) (v:AV) (ks:List AV):Ev Unit:=do
  let cs<-c3s N
  a0o (decide (cs.length=s)&&decide (0 < s)&&decide (t < N)&&decide (o+s<=ks.length))
  a3w N .dead
  if a1c cs then b5c t (setRow v q (a0f ks o cs)) else do
   c7g t q o s
   b5c t (setRow v q (a0f ks o cs))
theorem d31 {s t:Nat} {q:List Nat} {o:Nat} {cs ks:List AV}:((f2m N s t q o ((st.put N (.agg cs)).s t) ks).run (st.put N (.agg cs))).map (·.2)=d05 (st.put N .dead) N s cs (some (t,q,o,ks)):=by
 have hN:(st.put N (.agg cs)).s N= .agg cs:=by simp
 simp only [f2m,c3s,Ev.run_bind,a6e,hN,Option.bind,Ev.run_pure,a0j,d05,gO]
 by_cases h3:cs.length=s/\0 < s/\t < N/\o+s<=ks.length
 ·obtain ⟨g1,g2,g3,g4⟩:=h3
  have htN:t≠N:=Nat.ne_of_lt g3
  simp only [g1,g2,g3,g4,decide_true,Bool.and_self,if_true,and_self,a7y,b5v (show nm (AV.agg cs)=false from rfl),iO,htN,if_false,St.put_s]
  generalize a1c cs=b
  cases b<;>rfl
 ·have:(decide (cs.length=s)&&decide (0 < s)&&decide (t < N)&&decide (o+s<=ks.length))=false:=by
   simp only [Bool.and_eq_false_iff,decide_eq_false_iff_not]
   simp only [not_and] at h3
   by_cases g1:cs.length=s
   ·by_cases g2:0 < s
    ·by_cases g3:t < N
     ·exact .inr (h3 g1 g2 g3)
     ·exact .inl (.inr g3)
    ·exact .inl (.inl (.inr g2))
   ·exact .inl (.inl (.inl g1))
  simp only [this,Bool.false_eq_true,if_false,h3]
  rfl
@[go_sem] theorem e2a {T:TypeId} {s:Nat} {x y:X}:evS G N none (.store T s x y) st=e5v N s x (giv st N y (rdv st y)):=by
 have e:a1q G N none (.store T s x y)=(a59 y N >>=fun _=>c77 x >>=fun p=>f2m N s p.1 p.2.1 p.2.2.1 p.2.2.2.1 p.2.2.2.2.2):=rfl
 simp only [evS,e,Ev.run_bind,b38,Option.bind,Ev.run]
 cases giv st N y (rdv st y) with
 | none=>rfl
 | some r=>
  obtain ⟨st1,cs⟩:=r
  simp only [Option.map,b4b,e5v,e8v]
  have hd:nm AV.dead=false:=rfl
  have ha:nm (AV.agg cs)=false:=rfl
  have hep:∀ t,(st1.put N (.agg cs)).ep t=(st1.put N .dead).ep t:=fun t=>by simp only [St.put_ep,hd,ha,Bool.false_eq_true,and_false,if_false]
  have hpt:∀ (z:AV) t q o e p,b07 (st1.put N z) x (.ref t q o e)=some p->p.1=t:=by
   intro z t q o e p hp
   simp only [b07] at hp
   cases hr:eR (e==(st1.put N z).ep t) (a4m ((st1.put N z).s t) q) with
   | none=>rw [hr] at hp; cases hp
   | some ks=>
    rw [hr] at hp
    simp only [ptO,gO] at hp
    split at hp
    ·injection hp with hp; rw [<-hp]
    ·cases hp
  suffices hq:d05 (st1.put N .dead) N s cs (b07 (st1.put N (.agg cs)) x (rdv (st1.put N (.agg cs)) x))=d05 (st1.put N .dead) N s cs (b07 (st1.put N .dead) x (rdv (st1.put N .dead) x)) by
   rw [<-hq]
   cases b07 (st1.put N (.agg cs)) x (rdv (st1.put N (.agg cs)) x) with
   | none=>rfl
   | some p=>obtain ⟨t,q,o,ks⟩:=p; exact d31
  have hrd:rdv (st1.put N (.agg cs)) x=rdv (st1.put N .dead) x\/(rdv (st1.put N (.agg cs)) x= .agg cs/\rdv (st1.put N .dead) x= .dead):=by
   cases x with
   | t t=>
    by_cases ht:t=N
    ·exact .inr (by simp [rdv,ht])
    ·exact .inl (by simp [rdv,ht])
   | _=>exact .inl rfl
  rcases hrd with h | ⟨h1,h2⟩
  ·rw [h]
   cases hv:rdv (st1.put N .dead) x with
   | ref t q o e=>
    by_cases ht:t < N
    ·have htN:t≠N:=Nat.ne_of_lt ht
     have:b07 (st1.put N (.agg cs)) x (.ref t q o e)=b07 (st1.put N .dead) x (.ref t q o e):=by
      simp only [b07,hep,St.put_s,htN,if_false]
     rw [this]
    ·rw [d06 (fun p hp=>by rw [hpt _ _ _ _ _ _ hp]; exact ht),d06 (fun p hp=>by rw [hpt _ _ _ _ _ _ hp]; exact ht)]
   | _=>rfl
  ·rw [h1,h2]; rfl
def d1j (v:AV):Option Int:=match v with
 | .lit (.int _ n)=>some n
 | _=>none
@[go_sem] theorem e7e {k:IntKind} {n:Int}:d1j (.lit (.int k n))=some n:=(rfl)
theorem b6n (x:X):(c7f x).run st=(d1j (rdv st x)).map fun n=>(n,st):=by
 simp only [c7f,Ev.run_bind,a9o,Option.bind]
 cases rdv st x<;>try rfl
 rename_i v; cases v<;>rfl
def iaB (st:St) (sz:Nat) (n:Int) (t:Nat) (q:List Nat) (lo m:Nat) (k:Option AV):Option AV:=match k with
 | some (.own sz' n0 _)=>gO (n < (m:Int)/\sz'=sz/\lo+m<=n0) (some (.ref t q ((lo+n.toNat)*sz) (st.ep t)))
 | _=>none
@[congr] theorem e21 {sz:Nat} {n:Int} {t:Nat} {q:List Nat} {lo m:Nat} {k k':Option AV} (h:k=k'):iaB st sz n t q lo m k=iaB st sz n t q lo m k':=by rw [h]
@[go_sem] theorem f0n {sz:Nat} {n:Int} {t:Nat} {q:List Nat} {lo m sz' n0:Nat} {ks:List AV}:iaB st sz n t q lo m (some (.own sz' n0 ks))=gO (n < (m:Int)/\sz'=sz/\lo+m<=n0) (some (.ref t q ((lo+n.toNat)*sz) (st.ep t))):=(rfl)
def iaV (st:St) (sz:Nat) (n:Int) (x:X) (v:AV):Option AV:=match v with
 | .sl m ks=>gO (n < (m:Int)/\n.toNat*sz < ks.length) (some (.ip ks (n.toNat*sz)))
 | .own sz' m ks=>match x with
  | .t t=>iaB st sz n t [] 0 m (some (.own sz' m ks))
  | _=>none
 | .bor t q lo m e=>iaB st sz n t q lo m (a3m st t q e)
 | _=>none
@[go_sem] theorem f4v {sz:Nat} {n:Int} {x:X} {m:Nat} {ks:List AV}:iaV st sz n x (.sl m ks)=gO (n < (m:Int)/\n.toNat*sz < ks.length) (some (.ip ks (n.toNat*sz))):=(rfl)
@[go_sem] theorem f0p {sz:Nat} {n:Int} {t sz' m:Nat} {ks:List AV}:iaV st sz n (.t t) (.own sz' m ks)=iaB st sz n t [] 0 m (some (.own sz' m ks)):=(rfl)
@[go_sem] theorem f0o {sz:Nat} {n:Int} {x:X} {t:Nat} {q:List Nat} {lo m e:Nat}:iaV st sz n x (.bor t q lo m e)=iaB st sz n t q lo m (a3m st t q e):=(rfl)
def iaO (st:St) (sz:Nat) (x:X) (v:AV) (i:Option Int):Option AV:=match i with
 | some n=>gO (0<=n) (iaV st sz n x v)
 | none=>none
@[congr] theorem e22 {sz:Nat} {x:X} {v v':AV} {i i':Option Int} (h:i=i') (h2:v=v'):iaO st sz x v i=iaO st sz x v' i':=by rw [h,h2]
@[go_sem] theorem e7d {sz:Nat} {x:X} {v:AV} {n:Int}:iaO st sz x v (some n)=gO (0<=n) (iaV st sz n x v):=(rfl)
theorem b36 {x:X} {t:Nat} {q:List Nat} {lo n e:Nat} (h:rdv st x= .bor t q lo n e):(a8h x).run st=if e=st.ep t then some ((t,q,lo,n),st) else none:=by
 simp only [a8h,Ev.run_bind,a03,h,Option.bind,a2j]
 by_cases he:e=st.ep t
 ·simp only [he,beq_self_eq_true,a0o,if_true]; rfl
 ·have:(e==st.ep t)=false:=by simpa using he
  simp only [this,a0o,Bool.false_eq_true,if_false,he]; rfl
theorem b37 {t sz n:Nat} {ks:List AV} (h:st.s t= .own sz n ks):(a8h (.t t)).run st=some ((t,[],0,n),st):=by
 simp only [a8h,Ev.run_bind,a03,rdv,h,Option.bind,b8m,Ev.run]; rfl
theorem b5w {x:X} (h1:∀ t q lo n e,rdv st x≠ .bor t q lo n e) (h2:∀ sz n ks t,x= .t t->rdv st x≠ .own sz n ks):(a8h x).run st=none:=by
 simp only [a8h,Ev.run_bind,a03,Option.bind]
 cases hv:rdv st x<;>try rfl
 ·cases x<;>try rfl
  exact (h2 _ _ _ _ rfl hv).elim
 ·exact (h1 _ _ _ _ _ hv).elim
@[go_sem] theorem e12 {T:TypeId} {sz:Nat} {x i:X}:evS G N (some d) (.iaddr T sz x i) st=b9j st d (iaO st sz x (rdv st x) (d1j (rdv st i))):=by
 simp only [evS,a1q,Ev.run_bind,b6n,Option.bind]
 cases d1j (rdv st i) with
 | none=>rfl
 | some n=>
  simp only [Option.map,Ev.run_bind,a0j,Option.bind,iaO,gO]
  by_cases h0:0<=n
  ·simp only [h0,decide_true,if_true,Ev.run_bind,a03,Option.bind]
   cases hv:rdv st x with
   | sl m ks=>
    simp only [iaV,gO,Ev.run_bind,a0j,Option.bind]
    by_cases h1:n < (m:Int)
    ·by_cases h2:n.toNat*sz < ks.length
     ·simp only [h1,h2,decide_true,Bool.and_self,and_self,if_true]; rfl
     ·simp only [h2,decide_false,Bool.and_false,and_false,Bool.false_eq_true,if_false]; rfl
    ·simp only [h1,decide_false,Bool.false_and,false_and,Bool.false_eq_true,if_false]; rfl
   | bor t q lo m e=>
    simp only [Ev.run_bind,b36 hv,Option.bind,iaV]
    by_cases he:e=st.ep t
    ·simp only [he,if_true,Ev.run_bind,a0j,Option.bind,a2j,a3m]
     by_cases h1:n < (m:Int)
     ·simp only [h1,decide_true,if_true,Ev.run_bind,a2j,Option.bind,a1b]
      cases a0h (st.s t) q with
      | none=>rfl
      | some k=>
       cases k<;>try rfl
       rename_i sz' n0 ks
       simp only [Option.map,iaB,gO,Ev.run_bind,a0j,Option.bind,h1,true_and]
       by_cases h2:sz'=sz
       ·by_cases h3:lo+m<=n0
        ·simp only [h2,h3,beq_self_eq_true,decide_true,Bool.and_self,if_true,and_self]; rfl
        ·simp only [h3,decide_false,Bool.and_false,and_false,Bool.false_eq_true,if_false]; rfl
       ·have:(sz'==sz)=false:=by simpa using h2
        simp only [this,h2,Bool.false_and,false_and,Bool.false_eq_true,if_false]; rfl
     ·simp only [h1,decide_false,Bool.false_eq_true,if_false]
      cases a0h (st.s t) q with
      | none=>rfl
      | some k=>cases k<;>try rfl
                simp only [iaB,gO,h1,false_and,if_false]; rfl
    ·simp only [he,if_false,a3m]; rfl
   | own sz' m ks=>
    cases x with
    | t t=>
     simp only [rdv] at hv
     simp only [Ev.run_bind,b37 hv,Option.bind,iaV,iaB,gO,a0j]
     by_cases h1:n < (m:Int)
     ·simp only [h1,decide_true,if_true,Ev.run_bind,a2j,Option.bind,a1b,hv,a0h,Option.map,a0j,true_and]
      by_cases h2:sz'=sz
      ·simp only [h2,beq_self_eq_true,Nat.zero_add,Nat.le_refl,decide_true,Bool.and_self,if_true,and_self]; rfl
      ·have:(sz'==sz)=false:=by simpa using h2
       simp only [this,h2,Bool.false_and,false_and,Bool.false_eq_true,if_false]; rfl
     ·simp only [h1,decide_false,Bool.false_eq_true,if_false,false_and]; rfl
    | _=>rfl
   | _=>simp only [Ev.run_bind,b5w (st:=st) (x:=x) (by simp [hv]) (by simp [hv]),Option.bind]; rfl
  ·simp only [h0,decide_false,Bool.false_eq_true,if_false]; rfl
def oiK (st:St) (x:Option X) (dflt:Int):Option Int:=match x with
 | some x=>d1j (rdv st x)
 | none=>some dflt
@[go_sem] theorem e72 {z:Int}:oiK st none z=some z:=(rfl)
@[go_sem] theorem e73 {x:X} {z:Int}:oiK st (some x) z=d1j (rdv st x):=(rfl)
theorem a5z {x:Option X} {z:Int}:(a34 x z).run st=(oiK st x z).map fun n=>(n,st):=by
 cases x with
 | none=>rfl
 | some x=>exact b6n x
def slA (sz n:Nat) (ks:List AV) (lo hi:Option Int):Option AV:=match lo,hi with
 | some l,some h=>gO (0<=l/\l<=h/\h<=(n:Int)/\ks.length=n*sz) (some (.sl (h - l).toNat ((ks.drop (l.toNat*sz)).take ((h - l).toNat*sz))))
 | _,_=>none
@[congr] theorem e5m {sz n:Nat} {ks:List AV} {lo hi lo' hi':Option Int} (h:lo=lo') (h2:hi=hi'):slA sz n ks lo hi=slA sz n ks lo' hi':=by rw [h,h2]
@[go_sem] theorem e8r {sz n:Nat} {ks:List AV} {l h:Int}:slA sz n ks (some l) (some h)=gO (0<=l/\l<=h/\h<=(n:Int)/\ks.length=n*sz) (some (.sl (h - l).toNat ((ks.drop (l.toNat*sz)).take ((h - l).toNat*sz)))):=(rfl)
def slC (st:St) (sz t:Nat) (q:List Nat) (lo0 n sz' n0:Nat) (lo hi:Option Int):Option AV:=match lo,hi with
 | some l,some h=>gO (0<=l/\l<=h/\h<=(n:Int)/\lo0+n<=n0/\sz'=sz/\(lo0=0\/l=0\/l < h)) (some (.bor t q (lo0+l.toNat) (h - l).toNat (st.ep t)))
 | _,_=>none
def slB (st:St) (sz t:Nat) (q:List Nat) (lo0 n:Nat) (lo hi:Option X) (k:Option AV):Option AV:=match k with
 | some (.own sz' n0 _)=>slC st sz t q lo0 n sz' n0 (oiK st lo 0) (oiK st hi n)
 | _=>none
def slS (s:ByteArray) (lo hi:Option Int):Option AV:=match lo,hi with
 | some l,some h=>gO (0<=l/\l<=h/\h<=(s.size:Int)) (some (.lit (.string (s.extract l.toNat h.toNat))))
 | _,_=>none
def slV (st:St) (sz:Nat) (x:X) (lo hi:Option X) (v:AV):Option AV:=match v with
 | .lit (.string s)=>gO (sz=0) (slS s (oiK st lo 0) (oiK st hi s.size))
 | .sl n ks=>gO (0 < sz) (slA sz n ks (oiK st lo 0) (oiK st hi n))
 | .own sz' n ks=>match x with
  | .t t=>gO (0 < sz) (slB st sz t [] 0 n lo hi (some (.own sz' n ks)))
  | _=>none
 | .bor t q lo0 n e=>gO (0 < sz) (slB st sz t q lo0 n lo hi (a3m st t q e))
 | _=>none
@[congr] theorem e5o {sz:Nat} {x:X} {lo hi:Option X} {v v':AV} (h:v=v'):slV st sz x lo hi v=slV st sz x lo hi v':=by rw [h]
section
variable {sz:Nat} {x:X} {lo hi:Option X}
@[go_sem] theorem f5h {n:Nat} {ks:List AV}:slV st sz x lo hi (.sl n ks)=gO (0 < sz) (slA sz n ks (oiK st lo 0) (oiK st hi n)):=(rfl)
end
theorem e5n {sz t:Nat} {q:List Nat} {lo0 n sz' n0 e:Nat} {lo hi:Option X} (he:e=st.ep t) :
  ((do
    let l<-a34 lo 0
    let h<-a34 hi n
    a0o (decide (0<=l)&&decide (l<=h)&&decide (h<=(n:Int))&&decide (lo0+n<=n0)&&sz'==sz&&(lo0==0||l==0||decide (l < h)))
    setD (some d) (.bor t q (lo0+l.toNat) (h - l).toNat e):Ev Unit).run st).map (·.2)=b9j st d (slC st sz t q lo0 n sz' n0 (oiK st lo 0) (oiK st hi n)):=by
 subst he
 simp only [Ev.run_bind,a5z,Option.bind,slC]
 cases oiK st lo 0 with
 | none=>rfl
 | some l=>
  simp only [Option.map,a5z]
  cases oiK st hi n with
  | none=>rfl
  | some h=>
   simp only [Option.map,Ev.run_bind,a0j,Option.bind,gO]
   by_cases hc:0<=l/\l<=h/\h<=(n:Int)/\lo0+n<=n0/\sz'=sz/\(lo0=0\/l=0\/l < h)
   ·have:(decide (0<=l)&&decide (l<=h)&&decide (h<=(n:Int))&&decide (lo0+n<=n0)&&sz'==sz&&(lo0==0||l==0||decide (l < h)))=true:=by
     simp only [Bool.and_eq_true,Bool.or_eq_true,decide_eq_true_eq,beq_iff_eq]
     omega
    rw [if_pos hc]
    simp only [this,if_true]; rfl
   ·have:(decide (0<=l)&&decide (l<=h)&&decide (h<=(n:Int))&&decide (lo0+n<=n0)&&sz'==sz&&(lo0==0||l==0||decide (l < h)))=false:=by
     rw [Bool.eq_false_iff]
     intro hh
     simp only [Bool.and_eq_true,Bool.or_eq_true,decide_eq_true_eq,beq_iff_eq] at hh
     exact hc (by omega)
    rw [if_neg hc]
    simp only [this,Bool.false_eq_true,if_false]; rfl
@[go_sem] theorem e19 {T:TypeId} {sz:Nat} {x:X} {lo hi:Option X}:evS G N (some d) (.slice T sz x lo hi none) st=b9j st d (slV st sz x lo hi (rdv st x)):=by
 simp only [evS,a1q,Ev.run_bind,a03,Option.bind]
 have hno:∀ v:AV,rdv st x=v->(∀ t q lo n e,v≠ .bor t q lo n e)->(∀ sz n ks t,x= .t t->v≠ .own sz n ks)->((a0o (decide (0 < sz)) >>=fun _=>(a8h x >>=fun r=>(do
   let v<-b4x r.1
   let k<-a4z (a0h v.1 r.2.1)
   match k with
   | .own sz' n0 _=>do
    let l<-a34 lo 0
    let h<-a34 hi r.2.2.2
    a0o (decide (0<=l)&&decide (l<=h)&&decide (h<=(r.2.2.2:Int))&&decide (r.2.2.1+r.2.2.2<=n0)&&sz'==sz&&(r.2.2.1==0||l==0||decide (l < h)))
    match (none:Option X) with
    | none=>setD (some d) (.bor r.1 r.2.1 (r.2.2.1+l.toNat) (h - l).toNat v.2)
    | some m=>do
     let m<-c7f m
     a0o (l==0&&h==0&&m==0&&hi.isSome)
     a43 N (some d) (.own sz 0 [])
   | _=> .fail:Ev Unit)):Ev Unit).run st).map (·.2)=none:=by
  intro v hv h1 h2
  have hb:=b5w (st:=st) (x:=x) (by rw [hv]; exact h1) (by rw [hv]; exact h2)
  by_cases h0:0 < sz
  ·simp only [Ev.run_bind,a0j,Option.bind,h0,decide_true,if_true,hb]; rfl
  ·simp only [Ev.run_bind,a0j,Option.bind,h0,decide_false,Bool.false_eq_true,if_false]; rfl
 cases hv:rdv st x with
 | lit v=>
  cases v<;>try exact hno _ hv (by simp) (by simp)
  rename_i s
  simp only [slV,Ev.run_bind,a5z,Option.bind,slS,gO]
  cases oiK st lo 0 with
  | none=>simp only [Option.map,ite_self]; rfl
  | some l=>
   simp only [Option.map,a5z]
   cases oiK st hi s.size with
   | none=>simp only [Option.map,ite_self]; rfl
   | some h=>
    simp only [Option.map,Ev.run_bind,a0j,Option.bind,Option.isNone,Bool.and_true]
    by_cases hz:sz=0
    ·by_cases hc:0<=l/\l<=h/\h<=(s.size:Int)
     ·obtain ⟨h1,h2,h3⟩:=hc
      simp only [h1,h2,h3,hz,decide_true,Bool.and_self,beq_self_eq_true,if_true,and_self]; rfl
     ·have:(decide (0<=l)&&decide (l<=h)&&decide (h<=(s.size:Int)))=false:=by
       rw [Bool.eq_false_iff]; intro hh
       simp only [Bool.and_eq_true,decide_eq_true_eq] at hh
       exact hc (by omega)
      simp only [this,hz,Bool.false_and,Bool.false_eq_true,if_false,hc,if_true]; rfl
    ·have:(sz==0)=false:=by simpa using hz
     simp only [this,hz,Bool.and_false,Bool.false_eq_true,if_false]; rfl
 | sl n ks=>
  simp only [slV,gO,Ev.run_bind,a0j,Option.bind,slA]
  by_cases h0:0 < sz
  ·simp only [h0,decide_true,if_true,Ev.run_bind,a5z,Option.bind]
   cases oiK st lo 0 with
   | none=>rfl
   | some l=>
    simp only [Option.map,a5z]
    cases oiK st hi n with
    | none=>rfl
    | some h=>
     simp only [Option.map,Ev.run_bind,a0j,Option.bind,gO]
     by_cases hc:0<=l/\l<=h/\h<=(n:Int)/\ks.length=n*sz
     ·obtain ⟨h1,h2,h3,h4⟩:=hc
      simp only [h1,h2,h3,h4,decide_true,Bool.and_self,if_true,and_self]; rfl
     ·have:(decide (0<=l)&&decide (l<=h)&&decide (h<=(n:Int))&&decide (ks.length=n*sz))=false:=by
       rw [Bool.eq_false_iff]; intro hh
       simp only [Bool.and_eq_true,decide_eq_true_eq] at hh
       exact hc ⟨hh.1.1.1,hh.1.1.2,hh.1.2,hh.2⟩
      simp only [this,Bool.false_eq_true,if_false,hc]; rfl
  ·simp only [h0,decide_false,Bool.false_eq_true,if_false]; rfl
 | bor t q lo0 n e=>
  simp only [slV,gO,Ev.run_bind,a0j,Option.bind]
  by_cases h0:0 < sz
  ·simp only [h0,decide_true,if_true,Ev.run_bind,b36 hv,Option.bind]
   by_cases he:e=st.ep t
   ·simp only [he,if_true,a3m]
    simp only [a2j,a1b]
    cases a0h (st.s t) q with
    | none=>rfl
    | some k=>cases k<;>first | rfl | exact e5n rfl
   ·simp only [he,if_false,a3m]; rfl
  ·simp only [h0,decide_false,Bool.false_eq_true,if_false]; rfl
 | own sz' m ks=>
  cases x with
  | t t=>
   simp only [rdv] at hv
   simp only [slV,gO,Ev.run_bind,a0j,Option.bind]
   by_cases h0:0 < sz
   ·simp only [h0,decide_true,if_true,Ev.run_bind,b37 hv,Option.bind]
    simp only [a2j,a1b,hv,a0h,Option.map]
    exact e5n rfl
   ·simp only [h0,decide_false,Bool.false_eq_true,if_false]; rfl
  | _=>exact hno _ hv (by simp) (by simp)
 | _=>exact hno _ hv (by simp) (by simp)
end
section
variable {G:GG} {N d:Nat} {st:St}
def tkB (st:St) (N t:Nat) (q:List Nat) (lo n:Nat) (k:Option AV):Option (St×Nat×Nat×List AV):=match k with
 | some (.own sz n0 ks)=>gO (lo=0/\t < N/\n<=n0) (some (st.set t (a0x (st.s t) q .dead),sz,n,ks.take (n*sz)))
 | _=>none
@[congr] theorem e5x {t:Nat} {q:List Nat} {lo n:Nat} {k k':Option AV} (h:k=k'):tkB st N t q lo n k=tkB st N t q lo n k':=by rw [h]
@[go_sem] theorem f2t {t:Nat} {q:List Nat} {lo n sz n0:Nat} {ks:List AV}:tkB st N t q lo n (some (.own sz n0 ks))=gO (lo=0/\t < N/\n<=n0) (some (st.set t (a0x (st.s t) q .dead),sz,n,ks.take (n*sz))):=(rfl)
def tkS (st:St) (N:Nat) (x:X) (v:AV):Option (St×Nat×Nat×List AV):=match v with
 | .own sz n ks=>match x with
  | .t t=>some (st.put t .dead,sz,n,ks)
  | _=>some (st,sz,n,ks)
 | .bor t q lo n e=>tkB st N t q lo n (a3m st t q e)
 | _=>none
@[congr] theorem e5y {x:X} {v v':AV} (h:v=v'):tkS st N x v=tkS st N x v':=by rw [h]
@[go_sem] theorem f2v {t sz n:Nat} {ks:List AV}:tkS st N (.t t) (.own sz n ks)=some (st.put t .dead,sz,n,ks):=(rfl)
@[go_sem] theorem f2u {x:X} {t:Nat} {q:List Nat} {lo n e:Nat}:tkS st N x (.bor t q lo n e)=tkB st N t q lo n (a3m st t q e):=(rfl)
theorem d0w (x:X):(c5m x N).run st=(tkS st N x (rdv st x)).map fun r=>((),r.1.put N (.own r.2.1 r.2.2.1 r.2.2.2)):=by
 simp only [c5m,Ev.run_bind,a03,Option.bind]
 cases hv:rdv st x<;>try rfl
 ·cases x<;>rfl
 ·rename_i t q lo n e
  simp only [tkS,Ev.run_bind,a2j,Option.bind,a0j]
  by_cases he:e=st.ep t
  ·subst he
   simp only [a3m,if_true,beq_self_eq_true,Bool.true_and]
   cases hk:a0h (st.s t) q with
   | none=>
    simp only [tkB,Option.map]
    generalize (lo==0&&decide (t < N))=b
    cases b
    ·rfl
    ·simp only [if_true,a1b,hk]; rfl
   | some k=>
    by_cases h1:lo=0
    ·by_cases h2:t < N
     ·simp only [h1,h2,beq_self_eq_true,decide_true,Bool.and_self,if_true,a1b,hk,Option.map]
      cases k<;>try rfl
      rename_i sz n0 ks
      simp only [tkB,gO,Ev.run_bind,a0j,Option.bind,h2,true_and]
      by_cases h3:n<=n0
      ·simp only [h3,decide_true,if_true]; rfl
      ·simp only [h3,decide_false,Bool.false_eq_true,if_false]
     ·simp only [h2,decide_false,Bool.and_false,Bool.false_eq_true,if_false]
      cases k<;>try rfl
      simp only [tkB,gO,h2,false_and,and_false,if_false]; rfl
    ·have:(lo==0)=false:=by simpa using h1
     simp only [this,Bool.false_and,Bool.false_eq_true,if_false]
     cases k<;>try rfl
     simp only [tkB,gO,h1,false_and,if_false]; rfl
  ·have:(e==st.ep t)=false:=by simpa using he
   simp only [this,Bool.false_and,Bool.false_eq_true,if_false,a3m,he]; rfl
def srB (st:St) (N t:Nat) (q:List Nat) (lo n:Nat) (k:Option AV):Option (St×AV):=match k with
 | some (.own sz n0 ks)=>gO (t < N/\lo+n<=n0) (some (st.set t (a0x (st.s t) q (frz (.own sz n0 ks))),.sl n (((a2z ks).drop (lo*sz)).take (n*sz))))
 | _=>none
def srS (st:St) (N:Nat) (x:X) (v:AV):Option (St×AV):=match v with
 | .own sz n ks=>match x with
  | .t t=>some (st.put t .dead,.own sz n ks)
  | _=>some (st,.own sz n ks)
 | .sl n ks=>some (st,.sl n ks)
 | .bor t q lo n e=>srB st N t q lo n (a3m st t q e)
 | _=>none
@[congr] theorem e5t {x:X} {v v':AV} (h:v=v'):srS st N x v=srS st N x v':=by rw [h]
@[go_sem] theorem f2k {t sz n:Nat} {ks:List AV}:srS st N (.t t) (.own sz n ks)=some (st.put t .dead,.own sz n ks):=(rfl)
@[go_sem] theorem f5i {x:X} {n:Nat} {ks:List AV}:srS st N x (.sl n ks)=some (st,.sl n ks):=(rfl)
theorem d30 (x:X):(e0g x N).run st=(srS st N x (rdv st x)).map fun r=>((),r.1.put (N+1) r.2):=by
 simp only [e0g,Ev.run_bind,a03,Option.bind]
 cases hv:rdv st x<;>try rfl
 ·cases x<;>rfl
 ·rename_i t q lo n e
  simp only [srS,Ev.run_bind,a2j,Option.bind,a0j]
  by_cases he:e=st.ep t
  ·subst he
   simp only [a3m,if_true,beq_self_eq_true,Bool.true_and]
   cases hk:a0h (st.s t) q with
   | none=>
    simp only [srB,Option.map]
    generalize (decide (t < N))=b
    cases b
    ·rfl
    ·simp only [if_true,a1b,hk]; rfl
   | some k=>
    by_cases h2:t < N
    ·simp only [h2,decide_true,Bool.and_self,if_true,a1b,hk,Option.map]
     cases k<;>try rfl
     rename_i sz n0 ks
     simp only [srB,gO,Ev.run_bind,a0j,Option.bind,h2,true_and]
     by_cases h3:lo+n<=n0
     ·simp only [h3,decide_true,if_true]; rfl
     ·simp only [h3,decide_false,Bool.false_eq_true,if_false]
    ·simp only [h2,decide_false,Bool.and_false,Bool.false_eq_true,if_false]
     cases k<;>try rfl
     simp only [srB,gO,h2,false_and,and_false,if_false]; rfl
  ·have:(e==st.ep t)=false:=by simpa using he
   simp only [this,Bool.false_and,Bool.false_eq_true,if_false,a3m,he]; rfl
def apV (sz by_:Nat) (s y:AV):Option (AV):=match s,y with
 | .own sz1 n xs,.own sz2 m ys=>gO (sz1=sz/\sz2=sz/\(n+m)*by_<=140737488355328/\n+m<=140737488355328) (some (.own sz (n+m) (xs++ys)))
 | .own sz1 n xs,.sl m ys=>gO (sz1=sz/\ys.length=m*sz/\(n+m)*by_<=140737488355328/\n+m<=140737488355328) (some (.own sz (n+m) (xs++ys)))
 | _,_=>none
@[go_sem] theorem e84 {sz by_ sz1 sz2 n m:Nat} {xs ys:List AV}:apV sz by_ (.own sz1 n xs) (.own sz2 m ys)=gO (sz1=sz/\sz2=sz/\(n+m)*by_<=140737488355328/\n+m<=140737488355328) (some (.own sz (n+m) (xs++ys))):=(rfl)
@[go_sem] theorem f3d {sz by_ sz1 n m:Nat} {xs ys:List AV}:apV sz by_ (.own sz1 n xs) (.sl m ys)=gO (sz1=sz/\ys.length=m*sz/\(n+m)*by_<=140737488355328/\n+m<=140737488355328) (some (.own sz (n+m) (xs++ys))):=(rfl)
def apF (st:St) (N d:Nat) (o:Option AV):Option St:=match o with
 | some v=>some ((st.put (N+1) .dead).thru N d v)
 | none=>none
@[congr] theorem e0t {o o':Option AV} (h:o=o'):apF st N d o=apF st N d o':=by rw [h]
@[go_sem] theorem e6a {v:AV}:apF st N d (some v)=some ((st.put (N+1) .dead).thru N d v):=(rfl)
def ap2 (N d sz by_:Nat) (r:Option (St×AV)):Option St:=match r with
 | some (st2,v)=>apF (st2.put (N+1) v) N d (apV sz by_ ((st2.put (N+1) v).s N) v)
 | none=>none
@[congr] theorem e0s {sz by_:Nat} {r r':Option (St×AV)} (h:r=r'):ap2 N d sz by_ r=ap2 N d sz by_ r':=by rw [h]
@[go_sem] theorem e59 {sz by_:Nat} {v:AV}:ap2 N d sz by_ (some (st,v))=apF (st.put (N+1) v) N d (apV sz by_ ((st.put (N+1) v).s N) v):=(rfl)
def ap1 (N d sz by_:Nat) (y:X) (r:Option (St×Nat×Nat×List AV)):Option St:=match r with
 | some (st1,s,n,ks)=>ap2 N d sz by_ (srS (st1.put N (.own s n ks)) N y (rdv (st1.put N (.own s n ks)) y))
 | none=>none
@[congr] theorem e0r {sz by_:Nat} {y:X} {r r':Option (St×Nat×Nat×List AV)} (h:r=r'):ap1 N d sz by_ y r=ap1 N d sz by_ y r':=by rw [h]
@[go_sem] theorem e58 {sz by_ s n:Nat} {ks:List AV} {y:X}:ap1 N d sz by_ y (some (st,s,n,ks))=ap2 N d sz by_ (srS (st.put N (.own s n ks)) N y (rdv (st.put N (.own s n ks)) y)):=(rfl)
@[go_sem] theorem e9s {T e:TypeId} {sz by_:Nat} {x y:X}:evS G N (some d) (.app T e sz by_ x y) st=ap1 N d sz by_ y (tkS st N x (rdv st x)):=by
 simp only [evS,a1q,Ev.run_bind,d0w,Option.bind]
 cases tkS st N x (rdv st x) with
 | none=>rfl
 | some r=>
  obtain ⟨st1,s,n,ks⟩:=r
  simp only [Option.map,d30,ap1]
  cases srS (st1.put N (.own s n ks)) N y (rdv (st1.put N (.own s n ks)) y) with
  | none=>rfl
  | some r=>
   obtain ⟨st2,v⟩:=r
   have h1:(st2.put (N+1) v).s (N+1)=v:=by simp
   simp only [a6e,ap2,h1]
   have hown:∀ sz1 n xs sz2 m ys,((do
     a0o (sz1==sz&&sz2==sz&&decide ((n+m)*by_<=140737488355328)&&decide (n+m<=140737488355328))
     a3w (N+1) .dead
     a43 N (some d) (.own sz (n+m) (xs++ys)):Ev Unit).run (st2.put (N+1) v)).map (·.2)=apF (st2.put (N+1) v) N d (gO (sz1=sz/\sz2=sz/\(n+m)*by_<=140737488355328/\n+m<=140737488355328) (some (.own sz (n+m) (xs++ys)))):=by
    intro sz1 n xs sz2 m ys
    simp only [Ev.run_bind,a0j,Option.bind,gO]
    by_cases hc:sz1=sz/\sz2=sz/\(n+m)*by_<=140737488355328/\n+m<=140737488355328
    ·have:(sz1==sz&&sz2==sz&&decide ((n+m)*by_<=140737488355328)&&decide (n+m<=140737488355328))=true:=by
      simp only [Bool.and_eq_true,decide_eq_true_eq,beq_iff_eq]
      exact ⟨⟨⟨hc.1,hc.2.1⟩,hc.2.2.1⟩,hc.2.2.2⟩
     simp only [this,if_true,if_pos hc]; rfl
    ·have:(sz1==sz&&sz2==sz&&decide ((n+m)*by_<=140737488355328)&&decide (n+m<=140737488355328))=false:=by
      rw [Bool.eq_false_iff]; intro hh
      simp only [Bool.and_eq_true,decide_eq_true_eq,beq_iff_eq] at hh
      exact hc ⟨hh.1.1.1,hh.1.1.2,hh.1.2,hh.2⟩
     simp only [this,Bool.false_eq_true,if_false,if_neg hc]; rfl
   have hsl:∀ sz1 n xs m ys,((do
     a0o (sz1==sz&&decide (ys.length=m*sz)&&decide ((n+m)*by_<=140737488355328)&&decide (n+m<=140737488355328))
     a3w (N+1) .dead
     a43 N (some d) (.own sz (n+m) (xs++ys)):Ev Unit).run (st2.put (N+1) v)).map (·.2)=apF (st2.put (N+1) v) N d (gO (sz1=sz/\ys.length=m*sz/\(n+m)*by_<=140737488355328/\n+m<=140737488355328) (some (.own sz (n+m) (xs++ys)))):=by
    intro sz1 n xs m ys
    simp only [Ev.run_bind,a0j,Option.bind,gO]
    by_cases hc:sz1=sz/\ys.length=m*sz/\(n+m)*by_<=140737488355328/\n+m<=140737488355328
    ·have:(sz1==sz&&decide (ys.length=m*sz)&&decide ((n+m)*by_<=140737488355328)&&decide (n+m<=140737488355328))=true:=by
      simp only [Bool.and_eq_true,decide_eq_true_eq,beq_iff_eq]
      exact ⟨⟨⟨hc.1,hc.2.1⟩,hc.2.2.1⟩,hc.2.2.2⟩
     simp only [this,if_true,if_pos hc]; rfl
    ·have:(sz1==sz&&decide (ys.length=m*sz)&&decide ((n+m)*by_<=140737488355328)&&decide (n+m<=140737488355328))=false:=by
      rw [Bool.eq_false_iff]; intro hh
      simp only [Bool.and_eq_true,decide_eq_true_eq,beq_iff_eq] at hh
      exact hc ⟨hh.1.1.1,hh.1.1.2,hh.1.2,hh.2⟩
     simp only [this,Bool.false_eq_true,if_false,if_neg hc]; rfl
   cases hs:(st2.put (N+1) v).s N<;>try rfl
   cases v<;>first | rfl | exact hown _ _ _ _ _ _ | exact hsl _ _ _ _ _
def c6h (N:Nat):List (Nat×Nat×X)->St->Option St
 | [],st=>some st
 | (off,sz,x)::rest,st=>match giv st N x (rdv st x) with
  | some (st1,cs)=>match st1.s (N+1) with
   | .agg zs=>gO (cs.length=sz/\off+sz<=zs.length) (c6h N rest ((st1.put N .dead).put (N+1) (.agg (a0f zs off cs))))
   | _=>none
  | none=>none
@[congr] theorem d90 {l l':List (Nat×Nat×X)} {st':St} (hl:l=l') (h:st=st'):c6h N l st=c6h N l' st':=by rw [hl,h]
@[go_sem] theorem e79:c6h N [] st=some st:=(rfl)
def e77 (N off sz:Nat) (rest:List (Nat×Nat×X)) (st:St) (cs:List AV) (v:AV):Option St:=match v with
 | .agg zs=>gO (cs.length=sz/\off+sz<=zs.length) (c6h N rest ((st.put N .dead).put (N+1) (.agg (a0f zs off cs))))
 | _=>none
@[go_sem] theorem e78 {off sz:Nat} {rest:List (Nat×Nat×X)} {cs zs:List AV}:e77 N off sz rest st cs (.agg zs)=gO (cs.length=sz/\off+sz<=zs.length) (c6h N rest ((st.put N .dead).put (N+1) (.agg (a0f zs off cs)))):=(rfl)
def e4j (N off sz:Nat) (rest:List (Nat×Nat×X)) (r:Option (St×List AV)):Option St:=match r with
 | some (st1,cs)=>e77 N off sz rest st1 cs (st1.s (N+1))
 | none=>none
@[congr] theorem d9z {off sz:Nat} {rest:List (Nat×Nat×X)} {r r':Option (St×List AV)} (h:r=r'):e4j N off sz rest r=e4j N off sz rest r':=by rw [h]
@[go_sem] theorem e4k {off sz:Nat} {rest:List (Nat×Nat×X)} {cs:List AV}:e4j N off sz rest (some (st,cs))=e77 N off sz rest st cs (st.s (N+1)):=(rfl)
@[go_sem] theorem e4l {off sz:Nat} {x:X} {rest:List (Nat×Nat×X)}:c6h N ((off,sz,x)::rest) st=e4j N off sz rest (giv st N x (rdv st x)):=by
 simp only [c6h,e4j]
 cases giv st N x (rdv st x) with
 | none=>rfl
 | some r=>obtain ⟨st1,cs⟩:=r; simp only [e77]
theorem b5a:∀ (l:List (Nat×Nat×X)) (st:St),(b2c N l).run st=(c6h N l st).map fun st=>((),st)
 | [],st=>rfl
 | (off,sz,x)::rest,st=>by
  simp only [b2c,Ev.run_bind,b38,Option.bind,c6h]
  cases giv st N x (rdv st x) with
  | none=>rfl
  | some r=>
   obtain ⟨st1,cs⟩:=r
   have hN:(st1.put N (.agg cs)).s N= .agg cs:=by simp
   have hN1:(st1.put N (.agg cs)).s (N+1)=st1.s (N+1):=by simp
   simp only [Option.map,c3s,Ev.run_bind,a6e,Option.bind,hN,Ev.run_pure,hN1]
   cases st1.s (N+1)<;>try rfl
   rename_i zs
   simp only [Ev.run_pure,a0j,gO]
   by_cases hc:cs.length=sz/\off+sz<=zs.length
   ·simp only [hc.1,hc.2,decide_true,Bool.and_self,if_true,and_self,a7y,b5v (show nm (AV.agg cs)=false from rfl)]
    exact b5a rest _
   ·have:(decide (cs.length=sz)&&decide (off+sz<=zs.length))=false:=by
     rw [Bool.eq_false_iff]; intro hh
     simp only [Bool.and_eq_true,decide_eq_true_eq] at hh
     exact hc hh
    simp only [this,Bool.false_eq_true,if_false,if_neg hc]
def e9a (st:St) (N d:Nat) (v:AV):Option St:=match v with
 | .agg ks=>some ((st.put (N+1) .dead).put d (.agg ks))
 | _=>none
@[go_sem] theorem e6k {ks:List AV}:e9a st N d (.agg ks)=some ((st.put (N+1) .dead).put d (.agg ks)):=(rfl)
def e06 (N d:Nat) (o:Option St):Option St:=match o with
 | some st=>e9a st N d (st.s (N+1))
 | none=>none
@[congr] theorem d8m {o o':Option St} (h:o=o'):e06 N d o=e06 N d o':=by rw [h]
@[go_sem] theorem e07:e06 N d (some st)=e9a st N d (st.s (N+1)):=(rfl)
@[go_sem] theorem e1z {T:TypeId} {zs:List AV} {parts:List (Nat×Nat×Nat×X)}:evS G N (some d) (.build T zs parts) st=e06 N d (c6h N (parts.map fun p=>p.2) (st.put (N+1) (.agg zs))):=by
 simp only [evS,a1q,Ev.run_bind,a7y,Option.bind,b5a]
 cases c6h N (parts.map fun p=>p.2) (st.put (N+1) (.agg zs)) with
 | none=>rfl
 | some s=>
  simp only [Option.map,c3s,Ev.run_bind,a6e,Option.bind,e06]
  cases s.s (N+1)<;>rfl
def e9c (st:St) (N d sz len:Nat) (v:AV):Option St:=match v with
 | .agg ks=>some (st.thru (N+1) d (.own sz len ks))
 | _=>none
@[go_sem] theorem e6p {sz len:Nat} {ks:List AV}:e9c st N d sz len (.agg ks)=some (st.thru (N+1) d (.own sz len ks)):=(rfl)
def e1a (N d sz len:Nat) (o:Option St):Option St:=match o with
 | some st=>e9c st N d sz len (st.s (N+1))
 | none=>none
@[congr] theorem d8o {sz len:Nat} {o o':Option St} (h:o=o'):e1a N d sz len o=e1a N d sz len o':=by rw [h]
@[go_sem] theorem e1b {sz len:Nat}:e1a N d sz len (some st)=e9c st N d sz len (st.s (N+1)):=(rfl)
@[go_sem] theorem d9c {T e:TypeId} {sz len:Nat} {zs:List AV} {parts:List (Nat×X)}:evS G N (some d) (.bslice T e sz len zs parts) st=e1a N d sz len (c6h N (parts.map fun p=>(p.1*sz,sz,p.2)) (st.put (N+1) (.agg (a6s len zs)))):=by
 simp only [evS,a1q,Ev.run_bind,a7y,Option.bind,b5a]
 cases c6h N (parts.map fun p=>(p.1*sz,sz,p.2)) (st.put (N+1) (.agg (a6s len zs))) with
 | none=>rfl
 | some s=>
  simp only [Option.map,c3s,Ev.run_bind,a6e,Option.bind,e1a]
  cases s.s (N+1)<;>rfl
def e08 (N d sz:Nat) (r:Option (St×List AV)):Option St:=match r with
 | some (st1,cs)=>gO (cs.length=sz) (some ((st1.put N (.agg cs)).thru N d (.var cs)))
 | none=>none
@[congr] theorem d8n {sz:Nat} {r r':Option (St×List AV)} (h:r=r'):e08 N d sz r=e08 N d sz r':=by rw [h]
@[go_sem] theorem e09 {sz:Nat} {cs:List AV}:e08 N d sz (some (st,cs))=gO (cs.length=sz) (some ((st.put N (.agg cs)).thru N d (.var cs))):=(rfl)
@[go_sem] theorem e9u {T:TypeId} {sz:Nat} {x:X}:evS G N (some d) (.box T sz x) st=e08 N d sz (giv st N x (rdv st x)):=by
 simp only [evS,a1q,Ev.run_bind,b38,Option.bind]
 cases giv st N x (rdv st x) with
 | none=>rfl
 | some r=>
  obtain ⟨st1,cs⟩:=r
  have hN:(st1.put N (.agg cs)).s N= .agg cs:=by simp
  simp only [Option.map,c3s,Ev.run_bind,a6e,Option.bind,hN,Ev.run_pure,a0j,e08,gO]
  by_cases hc:cs.length=sz
  ·simp only [hc,decide_true,if_true]; rfl
  ·simp only [hc,decide_false,Bool.false_eq_true,if_false]
def e3p (st:St) (N d sz by_:Nat) (zs:List AV) (l c:Option Int):Option St:=match l,c with
 | some n,some m=>gO (0<=n/\n<=m/\m*by_<=140737488355328/\m<=140737488355328) (some (st.thru N d (.own sz n.toNat (a6s n.toNat zs))))
 | _,_=>none
@[congr] theorem d9r {sz by_:Nat} {zs:List AV} {l l' c c':Option Int} (h:l=l') (h2:c=c'):e3p st N d sz by_ zs l c=e3p st N d sz by_ zs l' c':=by rw [h,h2]
@[go_sem] theorem e3q {sz by_:Nat} {zs:List AV} {n m:Int}:e3p st N d sz by_ zs (some n) (some m)=gO (0<=n/\n<=m/\m*by_<=140737488355328/\m<=140737488355328) (some (st.thru N d (.own sz n.toNat (a6s n.toNat zs)))):=(rfl)
@[go_sem] theorem e90 {T e:TypeId} {sz by_:Nat} {zs:List AV} {l c:X}:evS G N (some d) (.mks T e sz by_ zs l c) st=e3p st N d sz by_ zs (d1j (rdv st l)) (d1j (rdv st c)):=by
 simp only [evS,a1q,Ev.run_bind,b6n,Option.bind,e3p]
 cases d1j (rdv st l) with
 | none=>rfl
 | some n=>
  simp only [Option.map,b6n]
  cases d1j (rdv st c) with
  | none=>rfl
  | some m=>
   simp only [Option.map,Ev.run_bind,a0j,Option.bind,gO]
   by_cases hc:0<=n/\n<=m/\m*by_<=140737488355328/\m<=140737488355328
   ·obtain ⟨h1,h2,h3,h4⟩:=hc
    simp only [h1,h2,h3,h4,decide_true,Bool.and_self,if_true,and_self]; rfl
   ·have:(decide (0<=n)&&decide (n<=m)&&decide (m*by_<=140737488355328)&&decide (m<=140737488355328))=false:=by
     rw [Bool.eq_false_iff]; intro hh
     simp only [Bool.and_eq_true,decide_eq_true_eq] at hh
     exact hc ⟨hh.1.1.1,hh.1.1.2,hh.1.2,hh.2⟩
    simp only [this,Bool.false_eq_true,if_false,if_neg hc]
def e7s (st:St) (d:Nat) (T:TypeId) (x:X) (v:AV):Option St:=match v with
 | .lit v=>some (st.put d (.lit (.iface T v)))
 | .var ks=>match x with
  | .t t=>some ((st.set t (frz (.var ks))).put d (.ifc T (frz (.var ks))))
  | _=>none
 | .ip ks o=>some (st.put d (.ifc T (.ip ks o)))
 | _=>none
@[congr] theorem d9q {T:TypeId} {x:X} {v v':AV} (h:v=v'):e7s st d T x v=e7s st d T x v':=by rw [h]
@[go_sem] theorem e9z {T:TypeId} {x:X}:evS G N (some d) (.mki T x) st=e7s st d T x (rdv st x):=by
 simp only [evS,a1q,Ev.run_bind,a03,Option.bind]
 cases hv:rdv st x<;>try rfl
 cases x<;>rfl
@[go_sem] theorem e7t {T:TypeId} {t:Nat} {ks:List AV}:e7s st d T (.t t) (.var ks)=some ((st.set t (.ip (a2z ks) 0)).put d (.ifc T (.ip (a2z ks) 0))):=(rfl)
def e2f (st:St) (d:Nat) (k:Option AV):Option St:=match k with
 | some k=>if a04 k then some (st.put d k) else none
 | none=>none
@[go_sem] theorem e2g {k:AV}:e2f st d (some k)=iO (a04 k) (some (st.put d k)) none:=(rfl)
def e2h (st:St) (d off:Nat) (v:AV):Option St:=match v with
 | .agg ks=>e2f st d ks[off]?
 | _=>none
@[congr] theorem d9h {off:Nat} {v v':AV} (h:v=v'):e2h st d off v=e2h st d off v':=by rw [h]
@[go_sem] theorem e64 {off:Nat} {ks:List AV}:e2h st d off (.agg ks)=e2f st d ks[off]? :=(rfl)
@[go_sem] theorem e9x {T off f:Nat} {x:X}:evS G N (some d) (.fld T off x f) st=e2h st d off (rdv st x):=by
 simp only [evS,a1q,Ev.run_bind,a03,Option.bind]
 cases hv:rdv st x<;>try rfl
 rename_i ks
 simp only [e2h,Ev.run_bind,a1b,Option.bind]
 cases ks[off]? with
 | none=>rfl
 | some k=>
  simp only [e2f,Ev.run_bind,a0j,Option.bind]
  cases hn:a04 k
  ·simp [e2f,Ev.run_bind,a0j,a1b,hn]
  ·simp only [Option.map,hn,if_true]; rfl
def d9d (st:St) (N d:Nat) (x:X) (i:Nat) (ks:List AV) (k:Option AV):Option St:=match k with
 | some k=>if a04 k then some (st.put d k) else match x with
  | .t t=>some ((st.put t (.tup (ks.set i .dead))).thru N d k)
  | _=>none
 | none=>none
@[congr] theorem d9e {x:X} {i:Nat} {ks:List AV} {k k':Option AV} (h:k=k'):d9d st N d x i ks k=d9d st N d x i ks k':=by rw [h]
@[go_sem] theorem e2b {t i:Nat} {ks:List AV} {k:AV}:d9d st N d (.t t) i ks (some k)=iO (a04 k) (some (st.put d k)) (some ((st.put t (.tup (ks.set i .dead))).thru N d k)):=(rfl)
def e2c (st:St) (N d:Nat) (x:X) (i:Nat) (v:AV):Option St:=match v with
 | .tup ks=>d9d st N d x i ks ks[i]?
 | _=>none
@[congr] theorem d9f {x:X} {i:Nat} {v v':AV} (h:v=v'):e2c st N d x i v=e2c st N d x i v':=by rw [h]
@[go_sem] theorem e61 {x:X} {i:Nat} {ks:List AV}:e2c st N d x i (.tup ks)=d9d st N d x i ks ks[i]? :=(rfl)
@[go_sem] theorem e9w {x:X} {i:Nat}:evS G N (some d) (.ext x i) st=e2c st N d x i (rdv st x):=by
 simp only [evS,a1q,Ev.run_bind,a03,Option.bind]
 cases hv:rdv st x<;>try rfl
 rename_i ks
 simp only [e2c,Ev.run_bind,a1b,Option.bind]
 cases ks[i]? with
 | none=>rfl
 | some k=>
  simp only [Option.map,d9d]
  generalize a04 k=b
  cases b<;>cases x<;>rfl
def d72 (T:TypeId) (zs:List AV) (v:AV):Option AV:=match v,zs with
 | .lit .nilIface,[z]=>some (.tup [z,.lit (.bool false)])
 | .lit (.iface T' u),[z]=>some (.tup (if T'=T then [.lit u,.lit (.bool true)] else [z,.lit (.bool false)]))
 | .ifc T' k,[z]=>if a04 k then some (.tup (if T'=T then [k,.lit (.bool true)] else [z,.lit (.bool false)])) else none
 | _,_=>none
@[congr] theorem e0j {T:TypeId} {zs:List AV} {v v':AV} (h:v=v'):d72 T zs v=d72 T zs v':=by rw [h]
@[go_sem] theorem e8w {T T':TypeId} {u:Value} {z:AV}:d72 T [z] (.lit (.iface T' u))=some (.tup (if T'=T then [.lit u,.lit (.bool true)] else [z,.lit (.bool false)])):=(rfl)
@[go_sem] theorem f2p {T T':TypeId} {ks:List AV} {o:Nat} {z:AV}:d72 T [z] (.ifc T' (.ip ks o))=some (.tup (if T'=T then [.ip ks o,.lit (.bool true)] else [z,.lit (.bool false)])):=(rfl)
@[go_sem] theorem e93 {x:X} {xT T:TypeId} {zs:List AV}:evS G N (some d) (.tas x xT T zs) st=b9j st d (d72 T zs (rdv st x)):=by
 simp only [evS,a1q,Ev.run_bind,a03,Option.bind]
 have two:∀ v:AV,(∀ z,zs≠[z])->((match v,zs with
  | .lit .nilIface,[z]=>setD (some d) (.tup [z,.lit (.bool false)])
  | .lit (.iface T' u),[z]=>setD (some d) (.tup (if T'=T then [.lit u,.lit (.bool true)] else [z,.lit (.bool false)]))
  | .ifc T' k,[z]=>do
   a0o (a04 k)
   setD (some d) (.tup (if T'=T then [k,.lit (.bool true)] else [z,.lit (.bool false)]))
  | _,_=>Ev.fail:Ev Unit).run st).map (·.2)=b9j st d (d72 T zs v):=by
  intro v h
  cases v<;>(cases zs with
   | nil=>first | rfl | (rename_i v; cases v<;>rfl)
   | cons a l=>cases l with
    | nil=>exact (h a rfl).elim
    | cons b l=>first | rfl | (rename_i v; cases v<;>rfl))
 cases zs with
 | nil=>exact two _ (by simp)
 | cons z l=>
  cases l with
  | cons b l=>exact two _ (by simp)
  | nil=>
   cases hv:rdv st x<;>try rfl
   ·rename_i v; cases v<;>rfl
   ·simp only [Ev.run_bind,a0j,Option.bind,d72]
    generalize a04 _=b
    cases b<;>rfl
def mmO (mx:Bool) (u v:AV):Option AV:=match u,v with
 | .lit (.int k a),.lit (.int k' b)=>if k=k' then some (.lit (.int k (if mx then (if b > a then b else a) else (if b < a then b else a)))) else none
 | _,_=>none
@[go_sem] theorem f03 {mx:Bool} {k:IntKind} {a b:Int}:mmO mx (.lit (.int k a)) (.lit (.int k b))=some (.lit (.int k (if mx then (if b > a then b else a) else (if b < a then b else a)))):=by simp [mmO]
@[go_sem] theorem f4g {mx:Bool} {ts:List TypeId} {x y:X}:evS G N (some d) (.mm mx ts [x,y]) st=b9j st d (mmO mx (rdv st x) (rdv st y)):=by
 simp only [evS,a1q,Ev.run_bind,a9o,Option.bind]
 cases rdv st x<;>try rfl
 simp only [a9o]
 cases rdv st y
 case lit.lit u v=>
  cases u<;>try rfl
  rename_i k a
  cases v<;>try rfl
  rename_i k' b
  simp only [mmO,Ev.run_bind,a0j,Option.bind]
  by_cases h:k=k'
  ·simp only [h,decide_true,if_true]; rfl
  ·simp only [h,decide_false,Bool.false_eq_true,if_false]; rfl
 all_goals first | rfl | (rename_i u; cases u<;>rfl) | (rename_i u _; cases u<;>rfl) | (rename_i u _ _; cases u<;>rfl) | (rename_i u _ _ _; cases u<;>rfl) | (rename_i u _ _ _ _; cases u<;>rfl) | (rename_i u _ _ _ _ _; cases u<;>rfl)
def e9r (G:GG) (b:BinOp) (tp:TypeId) (d:Option Nat) (u v:Value):Ev Unit:=match u,v with
  | .iface t1 (.pointer (some a)),.iface t2 (.pointer (some c))=>do
   a0o (t1==tp&&t2==tp&&(decide (a=c)||((G a.block).isSome&&(G c.block).isSome)))
   match b with
   | .eql=>setD d (.lit (.bool (decide (a=c))))
   | .neq=>setD d (.lit (.bool (!(decide (a=c)))))
   | _=> .fail
  | _,_=> .fail
def e1x (G:GG) (b:BinOp) (tp:TypeId) (st:St) (d:Nat) (u v:Option Value):Option St:=match u,v with
 | some u,some v=>((e9r G b tp (some d) u v).run st).map (·.2)
 | _,_=>none
@[congr] theorem d9b {b:BinOp} {tp:TypeId} {u v u' v':Option Value} (h:u=u') (h2:v=v'):e1x G b tp st d u v=e1x G b tp st d u' v':=by rw [h,h2]
def f3e (b:BinOp) (c:Bool):Option AV:=match b with
 | .eql=>some (.lit (.bool c))
 | .neq=>some (.lit (.bool (!c)))
 | _=>none
@[go_sem] theorem e6j {c:Bool}:f3e .eql c=some (.lit (.bool c)):=(rfl)
@[go_sem] theorem e6w {b:BinOp} {tp t1 t2:TypeId} {a c:Addr}:e1x G b tp st d (some (.iface t1 (.pointer (some a)))) (some (.iface t2 (.pointer (some c))))=gO (t1=tp/\t2=tp/\(a=c\/((G a.block).isSome=true/\(G c.block).isSome=true))) (b9j st d (f3e b (decide (a=c)))):=by
 simp only [e1x,e9r,gO,Ev.run_bind,a0j,Option.bind]
 by_cases h:t1=tp/\t2=tp/\(a=c\/((G a.block).isSome=true/\(G c.block).isSome=true))
 ·have:(t1==tp&&t2==tp&&(decide (a=c)||((G a.block).isSome&&(G c.block).isSome)))=true:=by
   simp only [Bool.and_eq_true,Bool.or_eq_true,beq_iff_eq,decide_eq_true_eq]; exact ⟨⟨h.1,h.2.1⟩,h.2.2⟩
  rw [if_pos h]
  simp only [this,if_true]
  cases b<;>rfl
 ·have:(t1==tp&&t2==tp&&(decide (a=c)||((G a.block).isSome&&(G c.block).isSome)))=false:=by
   rw [Bool.eq_false_iff]; intro hh
   simp only [Bool.and_eq_true,Bool.or_eq_true,beq_iff_eq,decide_eq_true_eq] at hh
   exact h ⟨hh.1.1,hh.1.2,hh.2⟩
  rw [if_neg h]
  simp only [this,Bool.false_eq_true,if_false]; rfl
@[go_sem] theorem e9v {b:BinOp} {T tp te:TypeId} {x y:X} {yT:TypeId}:evS G N (some d) (.eqs b T tp te x y yT) st=e1x G b tp st d (d9p (rdv st x)) (d9p (rdv st y)):=by
 have e:a1q G N (some d) (.eqs b T tp te x y yT)=(c1a x >>=fun u=>c1a y >>=fun v=>e9r G b tp (some d) u v):=rfl
 simp only [evS,e,Ev.run_bind,c3j,Option.bind]
 cases d9p (rdv st x) with
 | none=>rfl
 | some u=>
  simp only [Option.map,c3j]
  cases d9p (rdv st y)<;>rfl
end
section
variable {P:Program} {G:GG} {N:Nat} {st:St} {K:St->Prop}
def gvB (st:St) (N t:Nat) (q:List Nat) (lo n j:Nat) (k:Option AV):Option St:=match k with
 | some (.own sz n0 ks)=>gO (lo=0/\t < N/\n<=n0) (some ((st.set t (a0x (st.s t) q .dead)).put j (.own sz n (ks.take (n*sz)))))
 | _=>none
def gvS (st:St) (N:Nat) (x:X) (j:Nat) (v:AV):Option St:=match v with
 | .dead=>none
 | .bor t q lo n e=>gvB st N t q lo n j (a3m st t q e)
 | v=>if a0p v then ((b1g x j v).run st).map (·.2) else none
theorem d0t (x:X) (j:Nat):((c4q N x j).run st).map (·.2)=gvS st N x j (rdv st x):=by
 simp only [c4q,Ev.run_bind,a03,Option.bind]
 cases hv:rdv st x
 case dead=>rfl
 case bor t q lo n e=>
  simp only [gvS,Ev.run_bind,a2j,Option.bind,a0j]
  by_cases he:e=st.ep t
  ·subst he
   simp only [a3m,if_true,beq_self_eq_true,Bool.true_and]
   cases hk:a0h (st.s t) q with
   | none=>
    simp only [gvB]
    generalize (lo==0&&decide (t < N))=b
    cases b
    ·rfl
    ·simp only [if_true,a1b,hk]; rfl
   | some k=>
    by_cases h1:lo=0
    ·by_cases h2:t < N
     ·simp only [h1,h2,beq_self_eq_true,decide_true,Bool.and_self,if_true,a1b,hk]
      cases k<;>try rfl
      rename_i sz n0 ks
      simp only [Option.map,gvB,gO,Ev.run_bind,a0j,Option.bind,h2,true_and]
      by_cases h3:n<=n0
      ·simp only [h3,decide_true,if_true]; rfl
      ·simp only [h3,decide_false,Bool.false_eq_true,if_false]
     ·simp only [h2,decide_false,Bool.and_false,Bool.false_eq_true,if_false]
      cases k<;>try rfl
      simp only [gvB,gO,h2,false_and,and_false,if_false]; rfl
    ·have:(lo==0)=false:=by simpa using h1
     simp only [this,Bool.false_and,Bool.false_eq_true,if_false]
     cases k<;>try rfl
     simp only [gvB,gO,h1,false_and,if_false]; rfl
  ·have:(e==st.ep t)=false:=by simpa using he
   simp only [this,Bool.false_and,Bool.false_eq_true,if_false,a3m,he]; rfl
 all_goals (simp only [gvS,Ev.run_bind,a0j,Option.bind]; generalize a0p _=b; cases b<;>rfl)
section
variable {j:Nat}
end
def psB (st:St) (N t:Nat) (q:List Nat) (lo n j:Nat) (k:Option AV):Option St:=match k with
 | some (.own sz n0 ks)=>gO (t < N/\lo+n<=n0) (some ((st.set t (a0x (st.s t) q (frz (.own sz n0 ks)))).put j (.sl n (((a2z ks).drop (lo*sz)).take (n*sz)))))
 | _=>none
@[congr] theorem e4m {t:Nat} {q:List Nat} {lo n j:Nat} {k k':Option AV} (h:k=k'):psB st N t q lo n j k=psB st N t q lo n j k':=by rw [h]
@[go_sem] theorem f1v {t:Nat} {q:List Nat} {lo n j sz n0:Nat} {ks:List AV}:psB st N t q lo n j (some (.own sz n0 ks))=gO (t < N/\lo+n<=n0) (some ((st.set t (a0x (st.s t) q (frz (.own sz n0 ks)))).put j (.sl n (((a2z ks).drop (lo*sz)).take (n*sz))))):=(rfl)
def psS (st:St) (N:Nat) (x:X) (j:Nat) (v:AV):Option St:=match v with
 | .dead=>none
 | .bor t q lo n e=>psB st N t q lo n j (a3m st t q e)
 | v=>if a0p v then ((a5j x j v).run st).map (·.2) else none
@[congr] theorem e4n {x:X} {j:Nat} {v v':AV} (h:v=v'):psS st N x j v=psS st N x j v':=by rw [h]
theorem d0v (x:X) (j:Nat):((c0v N x j).run st).map (·.2)=psS st N x j (rdv st x):=by
 simp only [c0v,Ev.run_bind,a03,Option.bind]
 cases hv:rdv st x
 case dead=>rfl
 case bor t q lo n e=>
  simp only [psS,Ev.run_bind,a2j,Option.bind,a0j]
  by_cases he:e=st.ep t
  ·subst he
   simp only [a3m,if_true,beq_self_eq_true,Bool.true_and]
   cases hk:a0h (st.s t) q with
   | none=>
    simp only [psB]
    generalize (decide (t < N))=b
    cases b
    ·rfl
    ·simp only [if_true,a1b,hk]; rfl
   | some k=>
    by_cases h2:t < N
    ·simp only [h2,decide_true,if_true,a1b,hk]
     cases k<;>try rfl
     rename_i sz n0 ks
     simp only [Option.map,psB,gO,Ev.run_bind,a0j,Option.bind,h2,true_and]
     by_cases h3:lo+n<=n0
     ·simp only [h3,decide_true,if_true]; rfl
     ·simp only [h3,decide_false,Bool.false_eq_true,if_false]
    ·simp only [h2,decide_false,Bool.false_eq_true,if_false]
     cases k<;>try rfl
     simp only [psB,gO,h2,false_and,if_false]; rfl
  ·have:(e==st.ep t)=false:=by simpa using he
   simp only [this,Bool.false_and,Bool.false_eq_true,if_false,a3m,he]; rfl
 all_goals (simp only [psS,Ev.run_bind,a0j,Option.bind]; generalize a0p _=b; cases b<;>rfl)
section
variable {j:Nat}
@[go_sem] theorem f1x {x:X} {t:Nat} {q:List Nat} {lo n e:Nat}:psS st N x j (.bor t q lo n e)=psB st N t q lo n j (a3m st t q e):=(rfl)
@[go_sem] theorem f1z {x:X} {v:Value}:psS st N x j (.lit v)=some (st.put j (.lit v)):=by cases x<;>rfl
@[go_sem] theorem f5e {x:X} {n:Nat} {ks:List AV}:psS st N x j (.sl n ks)=some (st.put j (.sl n ks)):=by cases x<;>rfl
@[go_sem] theorem f10 {t sz n:Nat} {ks:List AV}:psS st N (.t t) j (.own sz n ks)=some ((st.set t (.sl n (a2z ks))).put j (.sl n (a2z ks))):=(rfl)
@[go_sem] theorem f1w {t:Nat} {ks:List AV}:psS st N (.t t) j (.agg ks)=iO (a1c ks) (some (st.put j (.agg ks))) (some ((st.set t (.agg (a2z ks))).put j (.agg (a2z ks)))):=by
 by_cases h:a1c ks=true
 ·simp only [psS,a0p,if_true,a5j,a04,iO,h]; rfl
 ·simp only [psS,a0p,if_true,a5j,a04,iO,h]; rfl
@[go_sem] theorem f1y {t:Nat} {T:TypeId} {k:AV}:psS st N (.t t) j (.ifc T k)=iO (a04 k) (some (st.put j (.ifc T k))) (some ((st.set t (.ifc T (frz k))).put j (.ifc T (frz k)))):=by
 by_cases h:a04 k=true
 ·simp only [psS,a0p,if_true,a5j,a04,iO,h]; rfl
 ·simp only [psS,a0p,if_true,a5j,a04,iO,h]; rfl
end
def gvs (N:Nat):Nat->List (Bool×X)->Option St->Option St
 | _,_,none=>none
 | _,[],some st=>some st
 | j,(true,x)::xs,some st=>gvs N (j+1) xs (gvS st N x j (rdv st x))
 | j,(false,_)::xs,some st=>gvs N (j+1) xs (some st)
def pss (N:Nat):Nat->List (Bool×X)->Option St->Option St
 | _,_,none=>none
 | _,[],some st=>some st
 | j,(false,x)::xs,some st=>pss N (j+1) xs (psS st N x j (rdv st x))
 | j,(true,_)::xs,some st=>pss N (j+1) xs (some st)
@[congr] theorem e4o {j:Nat} {xs:List (Bool×X)} {o o':Option St} (h:o=o'):pss N j xs o=pss N j xs o':=by rw [h]
@[go_sem] theorem f0k {j:Nat}:gvs N j [] (some st)=some st:=(rfl)
@[go_sem] theorem f6a {j:Nat} {x:X} {xs:List (Bool×X)}:gvs N j ((false,x)::xs) (some st)=gvs N (j+1) xs (some st):=(rfl)
@[go_sem] theorem f11 {j:Nat}:pss N j [] (some st)=some st:=(rfl)
@[go_sem] theorem f6f {j:Nat} {x:X} {xs:List (Bool×X)}:pss N j ((false,x)::xs) (some st)=pss N (j+1) xs (psS st N x j (rdv st x)):=(rfl)
theorem d2y {j:Nat} {xs:List (Bool×X)}:gvs N j xs none=none:=by cases xs<;>rfl
theorem d3m {j:Nat} {xs:List (Bool×X)}:pss N j xs none=none:=by cases xs<;>rfl
theorem a87:∀ (xs:List (Bool×X)) (j:Nat) (st:St),((a6p N j xs).run st).map (·.2)=gvs N j xs (some st)
 | [],j,st=>rfl
 | (b,x)::xs,j,st=>by
  simp only [a6p,Ev.run_bind,Option.bind]
  cases b with
  | true=>
   have h:=d0t (N:=N) (st:=st) x j
   simp only [if_true,gvs]
   rw [<-h]
   cases (c4q N x j).run st with
   | none=>simp [d2y]
   | some r=>exact a87 xs (j+1) r.2
  | false=>
   simp only [Bool.false_eq_true,if_false,Ev.run_pure]
   exact a87 xs (j+1) st
theorem a40:∀ (xs:List (Bool×X)) (j:Nat) (st:St),((a4i N j xs).run st).map (·.2)=pss N j xs (some st)
 | [],j,st=>rfl
 | (b,x)::xs,j,st=>by
  simp only [a4i,Ev.run_bind,Option.bind]
  cases b with
  | false=>
   have h:=d0v (N:=N) (st:=st) x j
   simp only [Bool.false_eq_true,if_false,pss]
   rw [<-h]
   cases (c0v N x j).run st with
   | none=>simp [d3m]
   | some r=>exact a40 xs (j+1) r.2
  | true=>
   simp only [if_true,Ev.run_pure]
   exact a40 xs (j+1) st
def b4j (st:St) (N:Nat) (d:Option Nat) (res:AV):St:=match d with
 | some d=>(st.clear N).thru N d res
 | none=>st.clear N
@[go_sem] theorem e2d {d:Nat} {res:AV}:b4j st N (some d) res=(st.clear N).thru N d res:=(rfl)
def cal (P:Program) (G:GG) (N:Nat) (d:Option Nat) (f:FuncId) (pre:List AV) (st1 st2:St) (K:St->Prop):Prop:=
 ∃ res,ACalls P G f pre res/\a0p res=true/\K (b4j (if a1l res then st1 else st2) N d res)
def d1u (P:Program) (G:GG) (N:Nat) (d:Option Nat) (f:FuncId) (n:Nat) (o1 o2:Option St) (K:St->Prop):Prop:=match o1,o2 with
 | some st1,some st2=>cal P G N d f (a61 N n st2) st1 st2 K
 | _,_=>False
def d5p (P:Program) (G:GG) (N:Nat) (d:Option Nat) (f:FuncId) (args:List (Bool×X)) (o1:Option St) (K:St->Prop):Prop:=d1u P G N d f args.length o1 (pss N (N+2) args o1) K
@[congr] theorem d8p {d:Option Nat} {f:FuncId} {args:List (Bool×X)} {o1 o1':Option St} (h:o1=o1'):d5p P G N d f args o1 K=d5p P G N d f args o1' K:=by rw [h]
@[congr] theorem d8q {d:Option Nat} {f:FuncId} {n:Nat} {o1 o2 o2':Option St} (h:o2=o2'):d1u P G N d f n o1 o2 K=d1u P G N d f n o1 o2' K:=by rw [h]
@[congr] theorem e1f {d:Option Nat} {f:FuncId} {pre pre':List AV} {st1 st2:St} (h:pre=pre'):cal P G N d f pre st1 st2 K=cal P G N d f pre' st1 st2 K:=by rw [h]
@[go_sem] theorem e1d {d:Option Nat} {f:FuncId} {args:List (Bool×X)}:d5p P G N d f args (some st) K=d1u P G N d f args.length (some st) (pss N (N+2) args (some st)) K:=(rfl)
@[go_sem] theorem e1e {d:Option Nat} {f:FuncId} {n:Nat} {st2:St}:d1u P G N d f n (some st) (some st2) K=cal P G N d f (a61 N n st2) st st2 K:=(rfl)
@[go_sem] theorem e0n {d:Option Nat} {f:FuncId} {args:List (Bool×X)} {tys:List TypeId} {rest:List AO}:b12 P G N (⟨d,.call f args tys,none⟩::rest) K st=d5p P G N d f args (gvs N (N+2) args (some st)) (b12 P G N rest K):=by
 simp only [b12,b0j,b8i,d5a]
 rw [<-a87]
 apply propext
 constructor
 ·rintro ⟨st1,st2,res,st3,h1,h2,h3,h4,h5,h6⟩
  have e2:=a40 (N:=N) args (N+2) st1
  rw [h2] at e2
  simp only [h1,Option.map,d5p,d1u,<-e2]
  refine ⟨res,h3,h4,?_⟩
  have:b4j (if a1l res then st1 else st2) N d res=st3:=by
   cases d with
   | none=>
    simp only [c3u,Ev.run_pure,Option.some.injEq,Prod.mk.injEq,true_and] at h5
    exact h5
   | some d=>
    simp only [c3u,b4c,Option.some.injEq,Prod.mk.injEq,true_and] at h5
    exact h5
  rw [this]; exact h6
 ·cases h1:(a6p N (N+2) args).run st with
  | none=>intro h; simp only [Option.map,d5p,d1u] at h
  | some r=>
   obtain ⟨_,st1⟩:=r
   simp only [Option.map,d5p]
   rw [<-a40]
   cases h2:(a4i N (N+2) args).run st1 with
   | none=>intro h; simp only [Option.map,d1u] at h
   | some r2=>
    obtain ⟨_,st2⟩:=r2
    simp only [Option.map,d1u]
    rintro ⟨res,h3,h4,h5⟩
    refine ⟨st1,st2,res,_,rfl,h2,h3,h4,?_,h5⟩
    cases d<;>rfl
@[go_sem] theorem f1q:a61 N 0 st=[]:=(rfl)
@[go_sem] theorem f1r:a61 N 1 st=[st.s (N+2+0)]:=(rfl)
@[go_sem] theorem f1s:a61 N 2 st=[st.s (N+2+0),st.s (N+2+1)]:=(rfl)
@[go_sem] theorem f1t:a61 N 3 st=[st.s (N+2+0),st.s (N+2+1),st.s (N+2+2)]:=(rfl)
@[go_sem] theorem f1u:a61 N 4 st=[st.s (N+2+0),st.s (N+2+1),st.s (N+2+2),st.s (N+2+3)]:=(rfl)
theorem a0c {d:Option Nat} {f:FuncId} {pre:List AV} {st1 st2:St} {res:AV} (hA:ACalls P G f pre res) (hn:a0p res=true) (hi:a1l res=true) (h:K (b4j st1 N d res)):cal P G N d f pre st1 st2 K:=⟨res,hA,hn,by rw [hi]; exact h⟩
theorem a5w {d:Option Nat} {f:FuncId} {pre:List AV} {st1 st2:St} {res:AV} (hA:ACalls P G f pre res) (hn:a0p res=true) (h:K (b4j st1 N d res)) (h2:K (b4j st2 N d res)):cal P G N d f pre st1 st2 K:=⟨res,hA,hn,by split; exact h; exact h2⟩
inductive RV where
 | tmp (t:Nat)
 | cell (t:Nat)
 | cells (t sz:Nat)
def RV.ok (P:Program) (N:Nat):RV->ResultVar->Bool
 | .tmp t,.tmp t'=>t==t'&&decide (t < N)
 | .cell t,.cell t' T=>t==t'&&decide (t < N)&&b80 P T==some false
 | .cells t sz,.cell t' T=>t==t'&&decide (t < N)&&b80 P T==some true&&b1y P T sz
 | _,_=>false
def c5h (r:RV) (st:St):Option AV:=match r with
 | .tmp t=>if a0p (st.s t) then some (st.s t) else none
 | .cell t=>match st.s t with
  | .var [k]=>some k
  | _=>none
 | .cells t sz=>match st.s t with
  | .var ks=>gO (ks.length=sz) (some (.agg ks))
  | _=>none
theorem c5i {r:RV} {v:ResultVar} {k:AV} (h:r.ok P N v=true) (hk:c5h r st=some k):b5t P N st v=some k:=by
 cases r with
 | tmp t=>
  cases v<;>simp only [RV.ok,Bool.and_eq_true,beq_iff_eq,decide_eq_true_eq,Bool.false_eq_true] at h
  obtain ⟨rfl,h⟩:=h
  simp only [c5h] at hk
  simp only [b5t,h,decide_true,Bool.true_and]
  exact hk
 | cell t=>
  cases v<;>simp only [RV.ok,Bool.and_eq_true,beq_iff_eq,decide_eq_true_eq,Bool.false_eq_true] at h
  obtain ⟨⟨rfl,h1⟩,h2⟩:=h
  simp only [c5h] at hk
  simp only [b5t,h1,if_true]
  split at hk
  ·rename_i k' hs
   rw [hs]
   simp only [h2]
   exact hk
  ·cases hk
 | cells t sz=>
  cases v<;>simp only [RV.ok,Bool.and_eq_true,beq_iff_eq,decide_eq_true_eq,Bool.false_eq_true] at h
  obtain ⟨⟨⟨rfl,h1⟩,h2⟩,h3⟩:=h
  simp only [c5h] at hk
  simp only [b5t,h1,if_true]
  split at hk
  ·rename_i ks hs
   simp only [gO] at hk
   split at hk
   ·rename_i hl
    rw [hs]
    simp only [h2,hl,h3,if_true]
    exact hk
   ·cases hk
  ·cases hk
def rvL:List RV->St->Option (List AV)
 | [],_=>some []
 | r::rs,st=>match c5h r st,rvL rs st with
  | some k,some ks=>some (k::ks)
  | _,_=>none
def c3k (P:Program) (N:Nat):List RV->List ResultVar->Bool
 | [],[]=>true
 | r::rs,v::vs=>r.ok P N v&&c3k P N rs vs
 | _,_=>false
theorem b73:∀ {rs:List RV} {vs:List ResultVar} {ks:List AV},c3k P N rs vs=true->rvL rs st=some ks->d41 P N st vs=some ks
 | [],[],ks,_,hk=>hk
 | [],_::_,ks,h,_=>by cases h
 | _::_,[],ks,h,_=>by cases h
 | r::rs,v::vs,ks,h,hk=>by
  simp only [c3k,Bool.and_eq_true] at h
  simp only [rvL] at hk
  split at hk
  ·rename_i k ks' h1 h2
   simp only [d41,c5i h.1 h1,b73 h.2 h2]
   exact hk
  ·cases hk
def e0a (rs:List RV) (st:St):Option AV:=match rvL rs st with
 | some [k]=>some k
 | some ks=>some (.tup ks)
 | none=>none
def e6v (rs:List RV) (res:AV):Exit->St->Prop
 | .normal,st | .ret,st=>e0a rs st=some res
 | _,_=>False
def rv1 (r:RV) (v:AV):Option AV:=match r with
 | .tmp t=>if a0p v then some v else none
 | .cell t=>match v with
  | .var [k]=>some k
  | _=>none
 | .cells t sz=>match v with
  | .var ks=>gO (ks.length=sz) (some (.agg ks))
  | _=>none
def avs (a:Option AV) (l:Option (List AV)):Option (List AV):=match a,l with
 | some k,some ks=>some (k::ks)
 | _,_=>none
def e8x (l:Option (List AV)):Option AV:=match l with
 | some [k]=>some k
 | some ks=>some (.tup ks)
 | none=>none
@[go_sem] theorem f5j {k:AV}:e8x (some [k])=some k:=(rfl)
@[go_sem] theorem f5k {a b:AV} {ks:List AV}:e8x (some (a::b::ks))=some (.tup (a::b::ks)):=(rfl)
@[go_sem] theorem e6i {k:AV} {ks:List AV}:avs (some k) (some ks)=some (k::ks):=(rfl)
@[go_sem] theorem f2e {t:Nat} {v:AV}:rv1 (.tmp t) v=if a0p v then some v else none:=(rfl)
@[go_sem] theorem e5d {t sz:Nat} {ks:List AV}:rv1 (.cells t sz) (.var ks)=gO (ks.length=sz) (some (.agg ks)):=(rfl)
@[go_sem] theorem f2f:rvL [] st=some []:=(rfl)
@[go_sem] theorem f2g {t:Nat} {rs:List RV}:rvL (.tmp t::rs) st=avs (rv1 (.tmp t) (st.s t)) (rvL rs st):=by
 simp only [rvL,avs,c5h,rv1]
@[go_sem] theorem e5e {t sz:Nat} {rs:List RV}:rvL (.cells t sz::rs) st=avs (rv1 (.cells t sz) (st.s t)) (rvL rs st):=by
 simp only [rvL,avs,c5h,rv1]
@[go_sem] theorem f4e {rs:List RV} {res:AV}:e6v rs res .ret st=(e8x (rvL rs st)=some res):=(rfl)
theorem c69 {rs:List RV} {vs:List ResultVar} {res:AV} (h:c3k P N rs vs=true):∀ e st,e6v rs res e st->f4d P N vs res e st:=by
 intro e st hq
 have key:e0a rs st=some res->c0t P N st vs=some res:=by
  intro hk
  unfold e0a at hk
  cases hl:rvL rs st with
  | none=>rw [hl] at hk; cases hk
  | some ks=>
   rw [hl] at hk
   simp only [c0t,b73 h hl]
   exact hk
 cases e<;>first | exact key hq | exact hq
end
theorem ACalls.of_walk {P:Program} {G:GG} {f:FuncId} {fn:Func} {c:Code} {N:Nat} {vs:List ResultVar} {rs:List RV} {ic:IC} (hord:P.follows .mixedOrders=true) (hf:P.funcs[f]? =some fn) (hb:fn.body=some c) (hN:fn.ntmps=N) (hrs:fn.results.toList=vs) (hnd:(vs.map rvT).Nodup)
  (he:b1o c=ic.ec) (hok:ic.ok P N=true) (hr:c3k P N rs vs=true) {pre:List AV} {res:AV} (hsz:pre.length<=N) (h:AW P G N ic (e6v rs res) (St.init pre)):ACalls P G f pre res:=
 b8p hf hb hN hrs hnd hsz ((c5q hord ic c _ _ he hok (IC.pin_nil ic) h).mono (c69 hr))
section
variable {k:IntKind} {a b:Int}
theorem a51 {b:BinOp} {k:IntKind} {x y:Int} {v:Value} (h:a26 b (.int k x) (.int k y)=some v) {kd:Nat} (hk:kd=0):a6v b kd (.lit (.int k x)) (.lit (.int k y))=some (.lit v):=by
 subst hk; simp [a6v,c9s,h]
theorem d5f:a26 .add (.int k a) (.int k b)=some (.int k (k.wrap (a+b))):=by simp [a26,Op.intArith]; rfl
theorem d5o:a26 .sub (.int k a) (.int k b)=some (.int k (k.wrap (a - b))):=by simp [a26,Op.intArith]; rfl
theorem d5l:a26 .mul (.int k a) (.int k b)=some (.int k (k.wrap (a*b))):=by simp [a26,Op.intArith]; rfl
theorem d5g:a26 .eql (.int k a) (.int k b)=some (.bool (a==b)):=by simp [a26,Op.intCmp]; rfl
theorem d5m:a26 .neq (.int k a) (.int k b)=some (.bool (a != b)):=by simp [a26,Op.intCmp]; rfl
theorem d5k:a26 .lss (.int k a) (.int k b)=some (.bool (decide (a < b))):=by simp [a26,Op.intCmp]; rfl
theorem d5j:a26 .leq (.int k a) (.int k b)=some (.bool (decide (a<=b))):=by simp [a26,Op.intCmp]; rfl
theorem d5i:a26 .gtr (.int k a) (.int k b)=some (.bool (decide (a > b))):=by simp [a26,Op.intCmp]; rfl
theorem d5h:a26 .geq (.int k a) (.int k b)=some (.bool (decide (a ≥ b))):=by simp [a26,Op.intCmp]; rfl
@[go_sem] theorem f3f:a6v .add 0 (.lit (.int k a)) (.lit (.int k b))=some (.lit (.int k (k.wrap (a+b)))):=a51 d5f rfl
@[go_sem] theorem f3o:a6v .sub 0 (.lit (.int k a)) (.lit (.int k b))=some (.lit (.int k (k.wrap (a - b)))):=a51 d5o rfl
@[go_sem] theorem f3l:a6v .mul 0 (.lit (.int k a)) (.lit (.int k b))=some (.lit (.int k (k.wrap (a*b)))):=a51 d5l rfl
@[go_sem] theorem f3g:a6v .eql 0 (.lit (.int k a)) (.lit (.int k b))=some (.lit (.bool (decide (a=b)))):=by
 rw [a51 d5g rfl]; simp only [Option.some.injEq,AV.lit.injEq,Value.bool.injEq]; by_cases h:a=b<;>simp [h]
@[go_sem] theorem f3m:a6v .neq 0 (.lit (.int k a)) (.lit (.int k b))=some (.lit (.bool (!decide (a=b)))):=by
 rw [a51 d5m rfl]; simp only [Option.some.injEq,AV.lit.injEq,Value.bool.injEq]; by_cases h:a=b<;>simp [h]
@[go_sem] theorem f3k:a6v .lss 0 (.lit (.int k a)) (.lit (.int k b))=some (.lit (.bool (decide (a < b)))):=a51 d5k rfl
@[go_sem] theorem f3j:a6v .leq 0 (.lit (.int k a)) (.lit (.int k b))=some (.lit (.bool (decide (a<=b)))):=a51 d5j rfl
@[go_sem] theorem f3i:a6v .gtr 0 (.lit (.int k a)) (.lit (.int k b))=some (.lit (.bool (decide (b < a)))):=a51 d5i rfl
@[go_sem] theorem f3h:a6v .geq 0 (.lit (.int k a)) (.lit (.int k b))=some (.lit (.bool (decide (b<=a)))):=a51 d5h rfl
end
section
variable {a b:Bool}
@[go_sem] theorem e89:a6v .eql 1 (.lit (.bool a)) (.lit (.bool b))=some (.lit (.bool (decide (a=b)))):=by cases a<;>cases b<;>rfl
@[go_sem] theorem e00:a6v .eql 2 (.lit .nilIface) (.lit .nilIface)=some (.lit (.bool true)):=(rfl)
@[go_sem] theorem e02:a6v .neq 2 (.lit .nilIface) (.lit .nilIface)=some (.lit (.bool false)):=(rfl)
@[go_sem] theorem e0z {T:TypeId} {v:Value}:a6v .eql 2 (.lit (.iface T v)) (.lit .nilIface)=some (.lit (.bool false)):=(rfl)
@[go_sem] theorem e01 {T:TypeId} {v:Value}:a6v .neq 2 (.lit (.iface T v)) (.lit .nilIface)=some (.lit (.bool true)):=(rfl)
@[go_sem] theorem e0y {T:TypeId} {k:AV}:a6v .eql 2 (.ifc T k) (.lit .nilIface)=some (.lit (.bool false)):=(rfl)
@[go_sem] theorem e03 {ks:List AV} {o:Nat}:a6v .eql 3 (.ip ks o) (.lit (.pointer none))=some (.lit (.bool false)):=(rfl)
end
theorem e9l {p:Prop} [Decidable p] (h:p):decide p=true:=decide_eq_true h
theorem e9k {p:Prop} [Decidable p] (h:¬ p):decide p=false:=decide_eq_false h
theorem b1e {n:Int} (h: -9223372036854775808<=n/\n<=9223372036854775807):IntKind.i64.wrap n=n:=by rw [IntKind.wrap_i64]; omega
section
variable {α:Type} {f:α->AV}
theorem d6d [Inhabited α] {xs:List α} {i:Nat} (h:i < xs.length):(xs.map f)[i]? =some (f xs[i]!):=by
 simp [h]
theorem b1k {β:Type} {l:List β} {o:Nat} {v:β} (h:o < l.length):a0f l o [v]=l.set o v:=by
 simp only [a0f,List.length_cons,List.length_nil]
 rw [List.set_eq_take_append_cons_drop,if_pos h]
 simp
theorem c73 {xs:List α} {o:Nat} {v:AV} (h:o < xs.length):a0f (xs.map f) o [v]=(xs.map f).set o v:=b1k (by simpa using h)
theorem c04 {xs:List α} {o i:Nat} {v w:AV} (h:o < xs.length):a0f ((xs.map f).set i w) o [v]=((xs.map f).set i w).set o v:=b1k (by simpa using h)
@[go_sem] theorem d47 {xs:List α}:List.take xs.length (xs.map f)=xs.map f:=List.take_of_length_le (by simp)
end
@[go_sem] theorem e0f {α:Type} {l:List α} {o:Nat}:a0f l o []=l:=by simp [a0f]
@[go_sem] theorem e8t {α:Type} {a x:α} {l xs:List α}:a0f (a::l) 0 (x::xs)=x::a0f l 0 xs:=by simp [a0f]
@[go_sem] theorem e8s {α:Type} {a:α} {l xs:List α} {o:Nat}:a0f (a::l) (o+1) xs=a::a0f l o xs:=by
 simp [a0f,show o+1+xs.length=(o+xs.length)+1 by omega]
@[go_sem] theorem c7r {α:Type} {f:α->AV} {xs:List α} (h:∀ x,a1l (f x)=true):a18 (xs.map f)=true:=by
 induction xs with
 | nil=>rfl
 | cons x xs ih=>simp [a18,h,ih]
@[go_sem] theorem e68 {α:Type} {f:α->AV} {xs:List α}:a2z (xs.map f)=xs.map fun x=>frz (f x):=by
 induction xs with
 | nil=>rfl
 | cons x xs ih=>simp [a2z,ih]
@[go_sem] theorem f5g {n:Nat} {z:AV}:a6s n [z]=List.replicate n z:=by
 simp only [a6s]; induction n with
 | zero=>rfl
 | succ n ih=>simp [List.replicate_succ,ih]
def iG (v:Option AV):AV:=match v with
 | some v=>v
 | none=> .lit undef
@[go_sem] theorem f0m {v:AV}:iG (some v)=v:=(rfl)
@[go_sem] theorem f2h {pre:List AV} {t:Nat}:(St.init pre).s t=iG pre[t]? :=by
 simp only [St.init,iG]; cases pre[t]? <;>rfl
@[go_sem] theorem e8p {pre:List AV} {t:Nat}:(St.init pre).ep t=0:=(rfl)
attribute [go_sem] List.getElem?_cons_zero List.getElem?_cons_succ List.getElem?_nil List.map_nil List.map_cons List.length_cons List.length_nil Nat.zero_add Nat.add_zero Nat.mul_one Nat.mul_zero Nat.zero_mul List.set_cons_zero List.set_cons_succ List.append_nil List.nil_append List.cons_append List.drop_zero List.take_zero List.drop_succ_cons List.take_succ_cons List.take_nil List.drop_nil Int.toNat_natCast List.length_map List.isEmpty_nil List.isEmpty_cons beq_self_eq_true Option.map_some Option.map_none decide_true decide_false and_true true_and Bool.true_or Bool.or_true Bool.false_or Bool.or_false List.take_length List.length_replicate List.map_map Function.comp_def Option.some.injEq
section
variable {P:Program} {G:GG} {N:Nat}
theorem a0u {Q:Exit->St->Prop} {st:St} {a:IC} (ι:Type) (I:ι->St->Prop) (μ:ι->Nat) (i0:ι) (h0:I i0 st) (h:∀ i st K,I i st->(∀ i' st',I i' st'->μ i' < μ i->K st')->AW P G N a (b1z K Q) st):AW P G N (.loop a) Q st:=
 ⟨ι,I,μ,i0,h0,fun i st hi=>h i st _ hi fun i' st' h1 h2=>⟨i',h1,h2⟩⟩
section
variable {kl:Nat->List Nat->Bool} {v:Value} {n sz o e t lo f T:Nat} {q:List Nat} {ks a b:List AV} {k:AV}
@[go_sem] theorem e25:a2s kl (.lit v)= .lit v:=by simp only [a2s]
@[go_sem] theorem e7f:a2s kl (.sl n ks)= .sl n ks:=by simp only [a2s]
@[go_sem] theorem e26:a2s kl (.own sz n ks)= .own sz n ks:=by simp only [a2s]
@[go_sem] theorem e28:a2s kl (.var ks)= .var ks:=by simp only [a2s]
@[go_sem] theorem e38:a04 (.lit v)=true:=by simp only [a04]
@[go_sem] theorem e7z:a04 (.sl n ks)=true:=by simp only [a04]
@[go_sem] theorem e7y:a04 (.ip ks o)=true:=by simp only [a04]
@[go_sem] theorem f0a:frz (.lit v)= .lit v:=by simp only [frz]
@[go_sem] theorem f4m:frz (.sl n ks)= .sl n ks:=by simp only [frz]
@[go_sem] theorem f4l:frz (.ip ks o)= .ip ks o:=by simp only [frz]
@[go_sem] theorem e39:a04 (.own sz n ks)=false:=by simp only [a04]
@[go_sem] theorem e37:a04 (.agg ks)=a1c ks:=by simp only [a04]
@[go_sem] theorem e4a:a04 (.tup ks)=a1c ks:=by simp only [a04]
@[go_sem] theorem f0b:frz (.own sz n ks)= .sl n (a2z ks):=by simp only [frz]
@[go_sem] theorem e99:frz (.agg ks)= .agg (a2z ks):=by simp only [frz]
@[go_sem] theorem e4d:a0p (.lit v)=true:=by simp only [a0p]
@[go_sem] theorem e70:a0p (.sl n ks)=true:=by simp only [a0p]
@[go_sem] theorem e4e:a0p (.own sz n ks)=true:=by simp only [a0p]
@[go_sem] theorem e4g:a0p (.var ks)=true:=by simp only [a0p]
@[go_sem] theorem e4b:a0p (.agg ks)=true:=by simp only [a0p]
@[go_sem] theorem e4f:a0p (.tup ks)=true:=by simp only [a0p]
@[go_sem] theorem e4c:a0p (.ifc T k)=true:=by simp only [a0p]
end
attribute [go_sem] e9l e9k e2x b1e d6d c73 c04 List.set_set List.map_append List.length_append List.length_set
end
end Go.Ideal
end
