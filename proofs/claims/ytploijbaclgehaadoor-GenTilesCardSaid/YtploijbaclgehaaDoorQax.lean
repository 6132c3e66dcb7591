/- Part Qax of the proof: walks on a machine that is proved sound. -/
import Derived.Test.YtploijbaclgehaaDoorQaw
import Derived.Test.YtploijbaclgehaaDoorQah
import Derived.Test.YtploijbaclgehaaDoorQav
import Derived.Test.YtploijbaclgehaaDoorQaj
set_option linter.unusedVariables false
set_option linter.unusedSimpArgs false
set_option maxRecDepth 10000
section
namespace Go.Ideal.Tryd
section
variable {G:GG} {bk:Nat->Nat×Nat} {Q:Exit->St->Prop} {st:St}
theorem c93 {l:List Sp} {s:Sp} {os:List Int} {most:Int} {i:Nat} (hi:i<=l.length) (hl:l.length < 2 ^ 40) (hos:i<=os.length) (hol:os.length < 2 ^ 40) (hx:∀ x∈l,x.len < 2 ^ 63) (ho:∀ o∈os,0<=o/\o < 2 ^ 63) (hs:s.len < 2 ^ 63/\1<=s.len)
  (h:st.s 0=slS l/\st.s 4=owI os/\st.s 5=li most/\st.s 6=li i/\st.s 7= .var (eS s)/\st.s 8=li 0/\st.s 15=slS l/\st.s 16=li l.length/\st.s 17=li i)
  (hex:∀ s':St,s'.s 0=slS l/\s'.s 4=owI os/\s'.s 5=li most/\s'.s 6=li i/\s'.s 7= .var (eS s)/\s'.s 8=li (a77 s (l.take i) os c7p 0)/\s'.s 15=slS l/\s'.s 16=li l.length/\s'.s 17=li i->Q (.exit 2) s'):AW pg G 107 (.loop a65) Q st:=by
 have hds:(l.take i).length=i:=by simp; omega
 have hdx:∀ x∈l.take i,x.len < 2 ^ 63:=fun x hx2=>hx x (List.mem_of_mem_take hx2)
 have htk:=c8o hi
 generalize l.take i=ds at *
 refine a01 (Nat×Int) (fun p st=>(0<=p.2/\p.2 < 2 ^ 63)/\2 ^ 63 - p.2<=p.1/\a77 s ds os p.1 p.2=a77 s ds os c7p 0/\st.s 0=slS l/\st.s 4=owI os/\st.s 5=li most/\st.s 6=li i/\st.s 7= .var (eS s)/\st.s 8=li p.2/\st.s 15=slS l/\st.s 16=li l.length/\st.s 17=li i) (fun p=>p.1) (c7p,0) ⟨by omega,by simp [c7p],rfl,by simpa using h⟩ ?_
 clear h
 rintro ⟨n,off⟩ st K ⟨hoff,hn,hm,h⟩ hK
 simp only at hoff hn hm h
 obtain ⟨n,rfl⟩:∃ m,n=m+1:=⟨n - 1,by omega⟩
 rw [a77] at hm
 simp (disch:=omega) [go_sem,a65,h,hi,htk]
 refine c92 (ds:=ds) (s:=s) (os:=os) (off:=off) (most:=most) hds hl (by omega) hol hdx ho hs hoff (by simp (disch:=omega) [go_sem,h,hi,htk]) (fun o e s' h'=> ?_) (fun e s' h'=> ?_)
 ·rw [e] at hm
  have:=b3b hdx ho e
  simp (disch:=omega) [go_sem,h']
  exact hK (n,o) _ ⟨this.2,by simp only; omega,hm,by simp (disch:=omega) [go_sem,h']⟩ (by simp only; omega)
 ·rw [e] at hm
  simp only at hm
  simp (disch:=omega) [go_sem,h']
  exact hex _ (by simp (disch:=omega) [go_sem,h',<-hm])
theorem d0c {os:List Int} {k:Nat} {x:Int}:(os++List.replicate (k+1) (0:Int)).set os.length x=(os++[x])++List.replicate k 0:=by
 rw [List.set_append_right _ _ (Nat.le_refl _),Nat.sub_self,List.replicate_succ,List.set_cons_zero,List.append_assoc]; rfl
theorem c94 {l:List Sp} (hl:l.length < 2 ^ 40) (hx:∀ x∈l,x.len < 2 ^ 63)
  (h:st.s 0=slS l/\st.s 4=owI (List.replicate l.length 0)/\st.s 5=li 0/\st.s 15=slS l/\st.s 16=li l.length/\st.s 17=li 0)
  (hex:∀ s':St,s'.s 4=owI (a7k l).1/\s'.s 5=li (a7k l).2->Q (.exit 0) s'):AW pg G 107 (.loop a3x) Q st:=by
 refine a01 (Nat×List Int×List Int×Int) (fun p st=>p.1<=l.length/\p.2.1.length=p.1/\p.2.2.1=p.2.1++List.replicate (l.length - p.1) 0/\(∀ o∈p.2.1,0<=o/\o < 2 ^ 63)/\d1g c7p (l.take p.1) p.2.1 p.2.2.2 (l.drop p.1)=a7k l/\st.s 0=slS l/\st.s 4=owI p.2.2.1/\st.s 5=li p.2.2.2/\st.s 15=slS l/\st.s 16=li l.length/\st.s 17=li p.1) (fun p=>l.length - p.1) (0,[],List.replicate l.length 0,0) ⟨by simp,rfl,by simp,by simp,by simp [a7k],by simpa using h⟩ ?_
 clear h
 rintro ⟨i,os,offs,most⟩ st K ⟨hi,hol,hof,ho,hm,h⟩ hK
 simp only at hi hol hof ho hm h
 have hlo:offs.length=l.length:=by rw [hof]; simp; omega
 have hoo:∀ o∈offs,0<=o/\o < 2 ^ 63:=by
  intro o ho2
  rw [hof] at ho2
  rcases List.mem_append.1 ho2 with h2 | h2
  ·exact ho o h2
  ·rw [List.eq_of_mem_replicate h2]; omega
 by_cases c:i < l.length
 ·have hx1:=hx _ (List.getElem_mem c)
  rw [List.drop_eq_getElem_cons c,d1g,<-List.take_succ_eq_append_getElem c] at hm
  have hds:os.length=(l.take i).length:=by simp; omega
  have hlk:a77 l[i] (l.take i) offs c7p 0=a77 l[i] (l.take i) os c7p 0:=by rw [hof]; exact b8s hds
  have hrg:=b8t (s:=l[i]) (xs:=l.take i) (os:=os) (n:=c7p) (off:=0) (fun x hx2=>hx x (List.mem_of_mem_take hx2)) ho (by omega)
  have hset:∀ x,offs.set i x=(os++[x])++List.replicate (l.length - (i+1)) 0:=by
   intro x
   rw [hof,show l.length - i=(l.length - (i+1))+1 by omega,<-hol]
   exact d0c
  generalize hsv:l[i]=s at *
  by_cases c1:s.len < 1
  ·rw [if_pos c1] at hm
   have hn:¬ (1:Int)<=s.len:=by omega
   simp (disch:=omega) [go_sem,a3x,h,c,hsv,c1]
   refine hK (i+1,os++[0],offs,most) _ ⟨by simp only; omega,by simp [hol],?_,?_,hm,by simp (disch:=omega) [go_sem,h]⟩ (by simp only; omega)
   ·simp only
    rw [hof,show l.length - i=(l.length - (i+1))+1 by omega,List.replicate_succ]; simp
   ·intro o ho2
    rcases List.mem_append.1 ho2 with h2 | h2
    ·exact ho o h2
    ·simp at h2; omega
  ·rw [if_neg c1] at hm
   simp (disch:=omega) [go_sem,a3x,h,c,hsv,c1]
   refine c93 (l:=l) (s:=s) (os:=offs) (most:=most) (i:=i) (by omega) hl (by omega) (by omega) hx hoo ⟨hx1,by omega⟩ (by simp (disch:=omega) [go_sem,h,eS]) (fun s' h'=> ?_)
   rw [hlk] at h'
   generalize hlv:a77 s (l.take i) os c7p 0=off at *
   have spec:=d2k (G:=G) off s.len hrg ⟨by omega,hx1⟩
   have c2:i < offs.length:=by omega
   simp (disch:=omega) [go_sem,h',eS,c,c2]
   refine a0i spec rfl rfl ?_
   simp (disch:=omega) [go_sem,h',eS,c,c2]
   refine hK (i+1,os++[off],offs.set i off,max most (b8c off s.len)) _ ⟨by simp only; omega,by simp [hol],hset off,?_,hm,by simp (disch:=omega) [go_sem,h',eS,b6f]⟩ (by simp only; omega)
   intro o ho2
   rcases List.mem_append.1 ho2 with h2 | h2
   ·exact ho o h2
   ·simp at h2; omega
 ·have:i=l.length:=by omega
  subst this
  rw [List.drop_length,d1g] at hm
  simp only [Nat.sub_self,List.replicate_zero,List.append_nil] at hof
  subst hof
  simp (disch:=omega) [go_sem,a3x,h]
  exact hex _ (by simp (disch:=omega) [go_sem,h,<-hm])
theorem d31 (l:List Sp) (hl:l.length < 2 ^ 40) (hx:∀ x∈l,x.len < 2 ^ 63):ACalls pg G b7f [slS l] (.tup [owI (a7k l).1,li (a7k l).2]):=by
 refine b26 rfl ?_
 simp (disch:=omega) [go_sem,b1g]
 refine c94 (l:=l) hl hx (by simp (disch:=omega) [go_sem]) (fun s' h'=> ?_)
 simp (disch:=omega) [go_sem,h']
end
end Go.Ideal.Tryd
end
section
namespace Go.Ideal.Tryd
attribute [local go_sem] eD
theorem b78 {xs:List Sp} {i:Nat} {a b o l:Int} (h:i < xs.length):a0h (fm eS xs) (i*4) [li a,li b,li o,li l]=fm eS (xs.set i ⟨a,b,o,l⟩):=b2v (f:=eS) (c:=4) (fun _=>rfl) ⟨a,b,o,l⟩ h
theorem c62 {α:Type} {os:List α} {k:Nat} {x z:α}:(os++List.replicate (k+1) z).set os.length x=(os++[x])++List.replicate k z:=by
 rw [List.set_append_right _ _ (Nat.le_refl _),Nat.sub_self,List.replicate_succ,List.set_cons_zero,List.append_assoc]; rfl
def sp0:Sp:=⟨0,0,0,0⟩
theorem d36 {n:Nat}:a7n n [li 0,li 0,li 0,li 0]=fm eS (List.replicate n sp0):=by
 induction n with
 | zero=>rfl
 | succ n ih=>rw [List.replicate_succ,a3j,<-ih]; simp [a7n,List.replicate_succ,eS,sp0]
def d1r:Nat->List Int->List Int->List Int
 | _,a,[]=>a
 | k,a,i::is=>d1r (k+1) (a.set i.toNat k) is
def atI (ord:List Int) (n:Nat):List Int:=d1r 0 (List.replicate n 0) ord
def d1m (a:List Int):Int->List Int->Int
 | t,[]=>t
 | t,k::ks=>d1m a (max t a[k.toNat]!) ks
def e5g (g:Gr) (ds:List Ds) (a:List Int) (i:Nat) (us:List Int):Sp:=⟨a[i]!,if (i:Int)=g.out then g.nodes.length else d1m a a[i]! us,0,upI (a5d ds[i]!.shape ds[i]!.wide)⟩
def f3p (inn x:Sp):Sp:={ inn with b:=max inn.b x.b,len:=x.len }
def c4g (g:Gr) (ds:List Ds) (a:List Int):Nat->List (List Int)->List Sp->Sp->List Sp×Sp
 | _,[],out,inn=>(out,inn)
 | i,us::uss,out,inn=>c4g g ds a (i+1) uss (out++[e5g g ds a i us]) (if g.nodes[i]!.op=1 then f3p inn (e5g g ds a i us) else inn)
def a9d (g:Gr):List (List Int):=c4n (g.nodes.map (·.ins)) 0 (List.replicate g.nodes.length [])
def a5n (g:Gr) (s:Sn):List Sp×Sp:=c4g g s.descs (atI s.ord g.nodes.length) 0 (a9d g) [] ⟨-1,-1,0,4⟩
theorem c10:∀ {k:Nat} {a is:List Int},(d1r k a is).length=a.length
 | _,_,[]=>rfl
 | k,a,i::is=>by rw [d1r,c10,List.length_set]
theorem e5i {t:Nat}:∀ {rs:List (List Int)} {i:Nat},∀ x∈sp t rs i,x < (i:Int)+rs.length
 | [],i,x,h=>by simp [sp] at h
 | r::rs,i,x,h=>by
  rw [sp] at h
  rcases List.mem_append.1 h with h | h
  ·split at h<;>simp at h; simp; omega
  ·have:=e5i (rs:=rs) (i:=i+1) x h
   simp; omega
theorem b4c {g:Gr}:(a9d g).length=g.nodes.length:=by
 rcases Nat.eq_zero_or_pos g.nodes.length with h | h
 ·have:g.nodes=[]:=List.eq_nil_of_length_eq_zero h
  simp [a9d,this,c4n]
 ·have:=(b2n (t:=0) (rs:=g.nodes.map (·.ins)) (i:=0) (u:=List.replicate g.nodes.length []) (by simpa using h) (by simp [h])).2
  simpa [a9d] using this
theorem c7l {g:Gr} {t:Nat} (h:t < g.nodes.length):(a9d g)[t]! =sp t (g.nodes.map (·.ins)) 0:=by
 have:=(b2n (t:=t) (rs:=g.nodes.map (·.ins)) (i:=0) (u:=List.replicate g.nodes.length []) (by simpa using h) (by simp [h])).1
 simpa [a9d,h] using this
theorem c7m {g:Gr}:∀ r∈a9d g,r.length<=g.nodes.length/\∀ x∈r,0<=x/\x < (g.nodes.length:Int):=by
 intro r hr
 obtain ⟨t,ht,rfl⟩:=List.mem_iff_getElem.1 hr
 have h2:t < g.nodes.length:=by rw [<-b4c]; exact ht
 have e:=c7l h2
 rw [b22 ht] at e
 rw [e]
 refine ⟨by have:=d1j (t:=t) (rs:=g.nodes.map (·.ins)) (i:=0); simpa using this,fun x hx=> ?_⟩
 have h3:=e5h x hx
 have h4:=e5i x hx
 simp at h3 h4
 omega
section
variable {G:GG} {bk:Nat->Nat×Nat} {Q:Exit->St->Prop} {st:St}
theorem d0d {g:Gr} {s:Sn} {n:Nat} (hn:n<=64) (hord:∀ x∈s.ord,0<=x/\x < (n:Int)) (hlo:s.ord.length < 2 ^ 36)
  (h:st.s 2= .var [slN g.nodes,li g.out]/\st.s 3= .var (eSn s)/\st.s 5= .var [li 0,li 0,li 0,li 0]/\st.s 6=owI (List.replicate n 0)/\st.s 21=slI s.ord/\st.s 22=li s.ord.length/\st.s 23=li 0)
  (hex:∀ s':St,s'.s 2= .var [slN g.nodes,li g.out]/\s'.s 3= .var (eSn s)/\s'.s 5= .var [li 0,li 0,li 0,li 0]/\s'.s 6=owI (atI s.ord n)->Q (.exit 0) s'):AW pg G 108 (.loop a4z) Q st:=by
 refine a01 (Nat×List Int) (fun p st=>p.1<=s.ord.length/\p.2.length=n/\d1r p.1 p.2 (s.ord.drop p.1)=atI s.ord n/\st.s 2= .var [slN g.nodes,li g.out]/\st.s 3= .var (eSn s)/\st.s 5= .var [li 0,li 0,li 0,li 0]/\st.s 6=owI p.2/\st.s 21=slI s.ord/\st.s 22=li s.ord.length/\st.s 23=li p.1) (fun p=>s.ord.length - p.1) (0,List.replicate n 0) ⟨by simp,by simp,rfl,by simpa using h⟩ ?_
 clear h
 rintro ⟨k,a⟩ st K ⟨hk,hl,hm,h⟩ hK
 simp only at hk hl hm h
 by_cases c:k < s.ord.length
 ·have hx:=hord _ (List.getElem_mem c)
  obtain ⟨i,hi⟩:∃ i:Nat,s.ord[k]=i:=⟨s.ord[k].toNat,by omega⟩
  rw [hi] at hx
  have hin:i < a.length:=by omega
  rw [List.drop_eq_getElem_cons c,d1r,hi,Int.toNat_natCast] at hm
  simp (disch:=omega) [go_sem,a4z,h,c,hi,hin]
  exact hK (k+1,a.set i k) _ ⟨by simp only; omega,by simpa using hl,hm,by simp (disch:=omega) [go_sem,h,hin]⟩ (by simp only; omega)
 ·have:k=s.ord.length:=by omega
  subst this
  rw [List.drop_length,d1r] at hm
  subst hm
  simp (disch:=omega) [go_sem,a4z,h]
  exact hex _ (by simp (disch:=omega) [go_sem,h])
theorem d0e {g:Gr} {s:Sn} {a us:List Int} {arr:List Sp} {uss:List (List Int)} {inn x:Sp} {i:Nat} (ha:a.length<=64) (hus:us.length<=64) (hu:∀ k∈us,0<=k/\k < (a.length:Int))
  (h:st.s 2= .var [slN g.nodes,li g.out]/\st.s 3= .var (eSn s)/\st.s 5= .var [li 0,li 0,li 0,li 0]/\st.s 6=owI a/\st.s 9=owS arr/\st.s 10= .var (eS inn)/\st.s 11=li i/\st.s 13= .var (eS x)/\st.s 39=a9f uss/\st.s 40=li uss.length/\st.s 41=li i/\st.s 62=slI us/\st.s 63=li us.length/\st.s 64=li 0)
  (hex:∀ s':St,s'.s 2= .var [slN g.nodes,li g.out]/\s'.s 3= .var (eSn s)/\s'.s 5= .var [li 0,li 0,li 0,li 0]/\s'.s 6=owI a/\s'.s 9=owS arr/\s'.s 10= .var (eS inn)/\s'.s 11=li i/\s'.s 13= .var (eS { x with b:=d1m a x.b us })/\s'.s 39=a9f uss/\s'.s 40=li uss.length/\s'.s 41=li i->Q (.exit 4) s'):AW pg G 108 (.loop a40) Q st:=by
 refine a01 (Nat×Int) (fun p st=>p.1<=us.length/\d1m a p.2 (us.drop p.1)=d1m a x.b us/\st.s 2= .var [slN g.nodes,li g.out]/\st.s 3= .var (eSn s)/\st.s 5= .var [li 0,li 0,li 0,li 0]/\st.s 6=owI a/\st.s 9=owS arr/\st.s 10= .var (eS inn)/\st.s 11=li i/\st.s 13= .var (eS { x with b:=p.2 })/\st.s 39=a9f uss/\st.s 40=li uss.length/\st.s 41=li i/\st.s 62=slI us/\st.s 63=li us.length/\st.s 64=li p.1) (fun p=>us.length - p.1) (0,x.b) ⟨by simp,by simp,by simpa using h⟩ ?_
 clear h
 rintro ⟨k,t⟩ st K ⟨hk,hm,h⟩ hK
 simp only at hk hm h
 by_cases c:k < us.length
 ·have hx:=hu _ (List.getElem_mem c)
  obtain ⟨j,hj⟩:∃ j:Nat,us[k]=j:=⟨us[k].toNat,by omega⟩
  rw [hj] at hx
  have hja:j < a.length:=by omega
  rw [List.drop_eq_getElem_cons c,d1m,hj,Int.toNat_natCast,b22 hja] at hm
  simp (disch:=omega) [go_sem,a40,h,c,hj,hja,eS]
  refine a0b ?_
  simp (disch:=omega) [go_sem,h,c,hj,hja,eS]
  refine a0c (by decide) fun s2 hs hep=> ?_
  simp (disch:=omega) [go_sem,hs,hep,h]
  exact hK (k+1,max t a[j]) _ ⟨by simp only; omega,hm,by simp (disch:=omega) [go_sem,hs,hep,h,eS,b6f]⟩ (by simp only; omega)
 ·have:k=us.length:=by omega
  subst this
  rw [List.drop_length,d1m] at hm
  subst hm
  simp (disch:=omega) [go_sem,a40,h]
  exact hex _ (by simp (disch:=omega) [go_sem,h])
theorem d0f (hS:Sent3 G bk) {g:Gr} {s:Sn} {a:List Int} (hn:g.nodes.length<=64) (ha:a.length=g.nodes.length) (hd:s.descs.length=g.nodes.length) (hsh:∀ d∈s.descs,d.shape.length < 2 ^ 62)
  (h:st.s 2= .var [slN g.nodes,li g.out]/\st.s 3= .var (eSn s)/\st.s 5= .var [li 0,li 0,li 0,li 0]/\st.s 6=owI a/\st.s 9=owS (List.replicate g.nodes.length sp0)/\st.s 10= .var [li (-1),li (-1),li 0,li 4]/\st.s 39=a9f (a9d g)/\st.s 40=li (a9d g).length/\st.s 41=li 0)
  (hex:∀ s':St,s'.s 5= .var [li 0,li 0,li 0,li 0]/\s'.s 9=owS (c4g g s.descs a 0 (a9d g) [] ⟨-1,-1,0,4⟩).1/\s'.s 10= .var (eS (c4g g s.descs a 0 (a9d g) [] ⟨-1,-1,0,4⟩).2)->Q (.exit 2) s'):AW pg G 108 (.loop a41) Q st:=by
 have hul:=b4c (g:=g)
 have hur:=c7m (g:=g)
 generalize a9d g=uss at *
 refine a01 (Nat×List Sp×List Sp×Sp) (fun p st=>p.1<=uss.length/\p.2.1.length=p.1/\p.2.2.1=p.2.1++List.replicate (g.nodes.length - p.1) sp0/\c4g g s.descs a p.1 (uss.drop p.1) p.2.1 p.2.2.2=c4g g s.descs a 0 uss [] ⟨-1,-1,0,4⟩/\st.s 2= .var [slN g.nodes,li g.out]/\st.s 3= .var (eSn s)/\st.s 5= .var [li 0,li 0,li 0,li 0]/\st.s 6=owI a/\st.s 9=owS p.2.2.1/\st.s 10= .var (eS p.2.2.2)/\st.s 39=a9f uss/\st.s 40=li uss.length/\st.s 41=li p.1) (fun p=>uss.length - p.1) (0,[],List.replicate g.nodes.length sp0,⟨-1,-1,0,4⟩) ⟨by simp,rfl,by simp,rfl,by simpa [eS] using h⟩ ?_
 clear h
 rintro ⟨i,out,arr,inn⟩ st K ⟨hi,hol,har,hm,h⟩ hK
 simp only at hi hol har hm h
 have hla:arr.length=g.nodes.length:=by rw [har]; simp; omega
 by_cases c:i < uss.length
 ·have hr:=hur _ (List.getElem_mem c)
  have c1:i < g.nodes.length:=by omega
  have c2:i < a.length:=by omega
  have c3:i < s.descs.length:=by omega
  have c4:i < arr.length:=by omega
  have hset:∀ x,arr.set i x=(out++[x])++List.replicate (g.nodes.length - (i+1)) sp0:=by
   intro x
   rw [har,show g.nodes.length - i=(g.nodes.length - (i+1))+1 by omega,<-hol]
   exact c62
  rw [List.drop_eq_getElem_cons c,c4g] at hm
  have hsd:=hsh _ (List.getElem_mem c3)
  have e0:e5g g s.descs a i uss[i]=⟨a[i],if (i:Int)=g.out then g.nodes.length else d1m a a[i] uss[i],0,upI (a5d s.descs[i].shape s.descs[i].wide)⟩:=by
   simp only [e5g,b22 c2,b22 c3]
  rw [e0,b22 c1] at hm
  have hby:=c8e (G:=G) hS s.descs[i].shape s.descs[i].wide hsd
  have hel:=a6h s.descs[i].shape
  have hup:=g1f (G:=G) (a5d s.descs[i].shape s.descs[i].wide) (by unfold a5d; split<;>omega)
  generalize hdv:s.descs[i]=d at *
  generalize a5d d.shape d.wide=nb at *
  generalize huv:uss[i]=us at *
  simp (disch:=omega) [go_sem,a41,h,c,huv]
  refine a0b ?_
  simp (disch:=omega) [go_sem,h,c,c2,c3,eSn,hdv]
  refine a0w hby rfl rfl (by simp) [59] (by simp) (by simp (disch:=omega) [go_sem]) ?_
  simp (disch:=omega) [go_sem,h,c,c2,c3,eSn,hdv]
  refine a0w hup rfl rfl (by simp) [60] (by simp) (by simp (disch:=omega) [go_sem]) ?_
  simp (disch:=omega) [go_sem,h,c,c2,c3,eSn,hdv]
  refine a0c (by decide) fun s2 hs hep=> ?_
  simp (disch:=omega) [go_sem,hs,hep,h,c,huv]
  refine d0e (g:=g) (s:=s) (a:=a) (us:=us) (arr:=arr) (uss:=uss) (inn:=inn) (x:=⟨a[i],a[i],0,upI nb⟩) (i:=i) (by omega) (by omega) (fun k hk=>by have:=hr.2 k hk; omega) (by simp (disch:=omega) [go_sem,hs,hep,h,eS,eSn]) (fun s3 h3=> ?_)
  simp only [eS,eSn] at h3
  by_cases ho:(i:Int)=g.out
  ·rw [if_pos ho] at hm
   by_cases hop:g.nodes[i].op=1
   ·rw [if_pos hop] at hm
    simp (disch:=omega) [go_sem,h3,c1,ho.symm,hop]
    refine a0b ?_
    simp (disch:=omega) [go_sem,h3,c1,ho.symm,hop]
    refine a0c (by decide) fun s4 hs4 hep4=> ?_
    simp (disch:=omega) [go_sem,hs4,hep4,h3]
    exact hK (i+1,_,arr.set i _,_) _ ⟨by simp only; omega,by simp [hol],hset _,hm,by simp (disch:=omega) [go_sem,hs4,hep4,h3,eS,eSn,f3p,b78,c4,b6f]⟩ (by simp only; omega)
   ·rw [if_neg hop] at hm
    simp (disch:=omega) [go_sem,h3,c1,ho.symm,hop]
    exact hK (i+1,_,arr.set i _,_) _ ⟨by simp only; omega,by simp [hol],hset _,hm,by simp (disch:=omega) [go_sem,h3,eS,eSn,b78,c4]⟩ (by simp only; omega)
  ·rw [if_neg ho] at hm
   by_cases hop:g.nodes[i].op=1
   ·rw [if_pos hop] at hm
    simp (disch:=omega) [go_sem,h3,c1,ho,hop]
    refine a0b ?_
    simp (disch:=omega) [go_sem,h3,c1,ho,hop]
    refine a0c (by decide) fun s4 hs4 hep4=> ?_
    simp (disch:=omega) [go_sem,hs4,hep4,h3]
    exact hK (i+1,_,arr.set i _,_) _ ⟨by simp only; omega,by simp [hol],hset _,hm,by simp (disch:=omega) [go_sem,hs4,hep4,h3,eS,eSn,f3p,b78,c4,b6f]⟩ (by simp only; omega)
   ·rw [if_neg hop] at hm
    simp (disch:=omega) [go_sem,h3,c1,ho,hop]
    exact hK (i+1,_,arr.set i _,_) _ ⟨by simp only; omega,by simp [hol],hset _,hm,by simp (disch:=omega) [go_sem,h3,eS,eSn,b78,c4]⟩ (by simp only; omega)
 ·have:i=uss.length:=by omega
  subst this
  rw [List.drop_length,c4g] at hm
  have:arr=out:=by rw [har,<-hul]; simp
  subst this
  simp (disch:=omega) [go_sem,a41,h]
  rw [<-hm] at hex
  exact hex _ (by simp (disch:=omega) [go_sem,h])
theorem d4k (hS:Sent3 G bk) (g:Gr) (s:Sn) (hn:g.nodes.length<=64) (htot:tot (g.nodes.map (·.ins)) < 2 ^ 40) (hord:∀ x∈s.ord,0<=x/\x < (g.nodes.length:Int)) (hlo:s.ord.length < 2 ^ 36) (hd:s.descs.length=g.nodes.length) (hsh:∀ d∈s.descs,d.shape.length < 2 ^ 62):ACalls pg G b7g [d6g g,.agg (eSn s)] (.tup [owS (a5n g s).1,.agg (eS (a5n g s).2)]):=by
 refine b27 rfl ?_
 simp (disch:=omega) [go_sem,b1h,eSn]
 refine d0d (g:=g) (s:=s) (n:=g.nodes.length) hn hord hlo (by simp (disch:=omega) [go_sem,eSn]) (fun s1 h1=> ?_)
 simp only [eSn] at h1
 simp (disch:=omega) [go_sem,h1,d36]
 refine a0k ((e5v g.nodes g.out (by omega) htot).shown (res':=a9f (a9d g)) (by simp (disch:=omega) [go_sem,a9d])) (by simp (disch:=omega) [go_sem]) (by simp (disch:=omega) [go_sem]) ?_
 simp (disch:=omega) [go_sem,h1]
 refine d0f hS (g:=g) (s:=s) (a:=atI s.ord g.nodes.length) hn (by simp [atI,c10]) hd hsh (by simp (disch:=omega) [go_sem,h1,eSn]) (fun s2 h2=> ?_)
 simp only [eS] at h2
 simp (disch:=omega) [go_sem,h2]
 refine a0b ?_
 simp (disch:=omega) [go_sem,h2]
 refine a0c (by decide) fun s3 hs hep=> ?_
 simp (disch:=omega) [go_sem,hs,hep,h2,a5n,eS]
end
def b3z (g:Gr) (out:List Sp):List Int->List Sp
 | []=>[]
 | i::is=>if g.nodes[i.toNat]!.op=1 then b3z g out is else out[i.toNat]! ::b3z g out is
def b03 (g:Gr) (inn:Sp) (offs:List Int):List Sp->Nat->Bool->List Int->List Sp×Bool
 | out,_,nn,[]=>(out,nn)
 | out,k,nn,i::is=>if g.nodes[i.toNat]!.op=1 then b03 g inn offs (out.set i.toNat inn) k false is else b03 g inn offs (out.set i.toNat { out[i.toNat]! with off:=offs[k]! }) (k+1) nn is
def g0v (g:Gr) (out:List Sp) (inn:Sp) (offs:List Int) (ord:List Int):List Sp:=
 if (b03 g { inn with off:=offs[0]! } offs out 1 true ord).2=true then (b03 g { inn with off:=offs[0]! } offs out 1 true ord).1++[{ inn with off:=offs[0]! }] else (b03 g { inn with off:=offs[0]! } offs out 1 true ord).1
def d07 (g:Gr) (s:Sn):(List Sp×Int)×Er:=
 if 65536 < (a7k ((a5n g s).2::b3z g (a5n g s).1 s.ord)).2 then (([],0),.s 7)
 else ((g0v g (a5n g s).1 (a5n g s).2 (a7k ((a5n g s).2::b3z g (a5n g s).1 s.ord)).1 s.ord,(a7k ((a5n g s).2::b3z g (a5n g s).1 s.ord)).2),.nil)
def a92 (g:Gr):(List Sp×Int)×Er:=if (ofR g).2.isNil=true then d07 g (ofR g).1 else (([],0),(ofR g).2)
theorem a8m {l:List AV} {i:Nat} {v:AV} (h:i < l.length):a0h l i [v]=l.set i v:=by
 rw [List.set_eq_take_append_cons_drop,if_pos h]; simp [a0h]
theorem d2g {xs:List Sp} {i:Nat} {v:Int} (h:i < xs.length):a0h (fm eS xs) (i*4+2) [li v]=fm eS (xs.set i { xs[i] with off:=v }):=by
 rw [a8m (by rw [c18]; omega)]
 induction xs generalizing i with
 | nil=>simp at h
 | cons x xs ih=>
  cases i with
  | zero=>rfl
  | succ i=>
   have:=ih (i:=i) (by simpa using h)
   rw [List.set_cons_succ,a3j,a3j,show (i+1)*4+2=(eS x).length+(i*4+2) by simp [eS]; omega,List.set_append_right _ _ (by omega),Nat.add_sub_cancel_left,this]
   rfl
theorem c1n {g:Gr} {o1:List Sp}:∀ {is:List Int},(b3z g o1 is).length<=is.length
 | []=>Nat.le_refl _
 | i::is=>by
  have:=c1n (g:=g) (o1:=o1) (is:=is)
  rw [b3z]
  split<;>simp<;>omega
theorem c2p {N:Nat}:∀ {ss ds:List Sp} {os:List Int} {m:Int},(d1g N ds os m ss).1.length=os.length+ss.length
 | [],_,_,_=>rfl
 | s::ss,ds,os,m=>by
  rw [d1g]
  split<;>rw [c2p]<;>simp<;>omega
theorem c2v {g:Gr} {ds:List Ds} {a:List Int}:∀ {us:List (List Int)} {i:Nat} {out:List Sp} {inn:Sp},(c4g g ds a i us out inn).1.length=out.length+us.length
 | [],_,_,_=>rfl
 | u::us,i,out,inn=>by
  rw [c4g,c2v]; simp; omega
theorem f6v {s:List Int} {w:Bool}:0<=upI (a5d s w)/\upI (a5d s w) < 2 ^ 63:=by
 have:=a6h s
 exact c7k (by unfold a5d; split<;>omega)
theorem c2w {g:Gr} {ds:List Ds} {a:List Int}:∀ {us:List (List Int)} {i:Nat} {out:List Sp} {inn:Sp},(∀ x∈out,x.len < 2 ^ 63)->inn.len < 2 ^ 63->(∀ x∈(c4g g ds a i us out inn).1,x.len < 2 ^ 63)/\(c4g g ds a i us out inn).2.len < 2 ^ 63
 | [],_,_,_,h,h2=>⟨h,h2⟩
 | u::us,i,out,inn,h,h2=>by
  rw [c4g]
  have hb:(e5g g ds a i u).len < 2 ^ 63:=f6v.2
  refine c2w (fun x hx=> ?_) ?_
  ·rcases List.mem_append.1 hx with hx | hx
   ·exact h x hx
   ·simp at hx; rw [hx]; exact hb
  ·split
   ·exact hb
   ·exact h2
theorem b6x {g:Gr} {out:List Sp}:∀ {is:List Int},(∀ i∈is,0<=i/\i < (out.length:Int))->∀ x∈b3z g out is,x∈out
 | [],_,x,h=>by simp [b3z] at h
 | i::is,hi,x,h=>by
  rw [b3z] at h
  split at h
  ·exact b6x (fun k hk=>hi k (by simp [hk])) x h
  ·rcases List.mem_cons.1 h with h | h
   ·have:=hi i (by simp)
    rw [h,b22 (by omega)]
    exact List.getElem_mem _
   ·exact b6x (fun k hk=>hi k (by simp [hk])) x h
section
variable {G:GG} {bk:Nat->Nat×Nat} {Q:Exit->St->Prop} {st:St}
theorem e2b {g:Gr} {s:Sn} {out:List Sp} {inn:Sp} (hn:g.nodes.length<=64) (hlo:out.length=g.nodes.length) (hord:∀ x∈s.ord,0<=x/\x < (g.nodes.length:Int)) (hol:s.ord.length < 2 ^ 36)
  (h:st.s 1= .var [slN g.nodes,li g.out]/\st.s 2=owS []/\st.s 3=li 0/\st.s 4= .lit .nilIface/\st.s 5= .var (eSn s)/\st.s 7=owS out/\st.s 8= .var (eS inn)/\st.s 9=owS [inn]/\st.s 37=slI s.ord/\st.s 38=li s.ord.length/\st.s 39=li 0)
  (hex:∀ s':St,s'.s 1= .var [slN g.nodes,li g.out]/\s'.s 2=owS []/\s'.s 3=li 0/\s'.s 4= .lit .nilIface/\s'.s 5= .var (eSn s)/\s'.s 7=owS out/\s'.s 8= .var (eS inn)/\s'.s 9=owS (inn::b3z g out s.ord)->Q (.exit 0) s'):AW pg G 106 (.loop a6m) Q st:=by
 refine a01 (Nat×List Sp) (fun p st=>p.1<=s.ord.length/\p.2.length<=p.1+1/\p.2++b3z g out (s.ord.drop p.1)=inn::b3z g out s.ord/\st.s 1= .var [slN g.nodes,li g.out]/\st.s 2=owS []/\st.s 3=li 0/\st.s 4= .lit .nilIface/\st.s 5= .var (eSn s)/\st.s 7=owS out/\st.s 8= .var (eS inn)/\st.s 9=owS p.2/\st.s 37=slI s.ord/\st.s 38=li s.ord.length/\st.s 39=li p.1) (fun p=>s.ord.length - p.1) (0,[inn]) ⟨by simp,by simp,rfl,by simpa using h⟩ ?_
 clear h
 rintro ⟨j,l⟩ st K ⟨hj,hll,hm,h⟩ hK
 simp only at hj hll hm h
 by_cases c:j < s.ord.length
 ·have hx:=hord _ (List.getElem_mem c)
  obtain ⟨i,hi⟩:∃ i:Nat,s.ord[j]=i:=⟨s.ord[j].toNat,by omega⟩
  rw [hi] at hx
  have c1:i < g.nodes.length:=by omega
  have c2:i < out.length:=by omega
  rw [List.drop_eq_getElem_cons c,b3z,hi,Int.toNat_natCast,b22 c1,b22 c2] at hm
  by_cases hop:g.nodes[i].op=1
  ·rw [if_pos hop] at hm
   simp (disch:=omega) [go_sem,a6m,h,c,hi,c1,hop]
   exact hK (j+1,l) _ ⟨by simp only; omega,by simp only; omega,hm,by simp (disch:=omega) [go_sem,h]⟩ (by simp only; omega)
  ·rw [if_neg hop] at hm
   simp (disch:=omega) [go_sem,a6m,h,c,hi,c1,c2,hop]
   exact hK (j+1,l++[out[i]]) _ ⟨by simp only; omega,by simp; omega,by simpa using hm,by simp (disch:=omega) [go_sem,h,a5t,a5f,eS]⟩ (by simp only; omega)
 ·have:j=s.ord.length:=by omega
  subst this
  rw [List.drop_length,b3z,List.append_nil] at hm
  subst hm
  simp (disch:=omega) [go_sem,a6m,h]
  exact hex _ (by simp (disch:=omega) [go_sem,h])
theorem e2c {g:Gr} {s:Sn} {out:List Sp} {inn:Sp} {offs:List Int} {n:Int} (hn:g.nodes.length<=64) (hlo:out.length=g.nodes.length) (hord:∀ x∈s.ord,0<=x/\x < (g.nodes.length:Int)) (hol:s.ord.length < 2 ^ 36) (hof:offs.length=1+(b3z g out s.ord).length)
  (h:st.s 1= .var [slN g.nodes,li g.out]/\st.s 2=owS []/\st.s 3=li 0/\st.s 4= .lit .nilIface/\st.s 5= .var (eSn s)/\st.s 7=owS out/\st.s 8= .var (eS inn)/\st.s 12=owI offs/\st.s 13=li n/\st.s 14=li 1/\st.s 15=lb true/\st.s 71=slI s.ord/\st.s 72=li s.ord.length/\st.s 73=li 0)
  (hex:∀ s':St,(s'.s 2=owS []/\s'.s 3=li 0/\s'.s 4= .lit .nilIface/\s'.s 7=owS (b03 g inn offs out 1 true s.ord).1/\s'.s 8= .var (eS inn)/\s'.s 13=li n/\s'.s 15=lb (b03 g inn offs out 1 true s.ord).2)/\(b03 g inn offs out 1 true s.ord).1.length=out.length->Q (.exit 2) s'):AW pg G 106 (.loop a6n) Q st:=by
 refine a01 (Nat×List Sp×Nat×Bool) (fun p st=>p.1<=s.ord.length/\p.2.1.length=g.nodes.length/\p.2.2.1+(b3z g out (s.ord.drop p.1)).length=offs.length/\b03 g inn offs p.2.1 p.2.2.1 p.2.2.2 (s.ord.drop p.1)=b03 g inn offs out 1 true s.ord/\st.s 1= .var [slN g.nodes,li g.out]/\st.s 2=owS []/\st.s 3=li 0/\st.s 4= .lit .nilIface/\st.s 5= .var (eSn s)/\st.s 7=owS p.2.1/\st.s 8= .var (eS inn)/\st.s 12=owI offs/\st.s 13=li n/\st.s 14=li p.2.2.1/\st.s 15=lb p.2.2.2/\st.s 71=slI s.ord/\st.s 72=li s.ord.length/\st.s 73=li p.1) (fun p=>s.ord.length - p.1) (0,out,1,true) ⟨by simp,hlo,by simp [hof],rfl,by simpa using h⟩ ?_
 clear h
 have hsl:=c1n (g:=g) (o1:=out) (is:=s.ord)
 rintro ⟨j,o,k,b⟩ st K ⟨hj,hl,hk,hm,h⟩ hK
 simp only at hj hl hk hm h
 by_cases c:j < s.ord.length
 ·have hx:=hord _ (List.getElem_mem c)
  obtain ⟨i,hi⟩:∃ i:Nat,s.ord[j]=i:=⟨s.ord[j].toNat,by omega⟩
  rw [hi] at hx
  have c1:i < g.nodes.length:=by omega
  have c2:i < o.length:=by omega
  rw [List.drop_eq_getElem_cons c,b03,hi,Int.toNat_natCast,b22 c1,b22 c2] at hm
  rw [List.drop_eq_getElem_cons c,b3z,hi,Int.toNat_natCast,b22 c1] at hk
  by_cases hop:g.nodes[i].op=1
  ·rw [if_pos hop] at hm hk
   simp (disch:=omega) [go_sem,a6n,h,c,hi,c1,c2,hop,eS]
   exact hK (j+1,o.set i inn,k,false) _ ⟨by simp only; omega,by simpa using hl,hk,hm,by simp (disch:=omega) [go_sem,h,c2,eS,b78]⟩ (by simp only; omega)
  ·rw [if_neg hop,List.length_cons] at hk
   have c3:k < offs.length:=by omega
   rw [if_neg hop,b22 c3] at hm
   simp (disch:=omega) [go_sem,a6n,h,c,hi,c1,c2,c3,hop]
   exact hK (j+1,o.set i { o[i] with off:=offs[k] },k+1,b) _ ⟨by simp only; omega,by simpa using hl,by simp only; omega,hm,by simp (disch:=omega) [go_sem,h,c2,d2g]⟩ (by simp only; omega)
 ·have:j=s.ord.length:=by omega
  subst this
  rw [List.drop_length,b03] at hm
  rw [<-hm] at hex
  simp (disch:=omega) [go_sem,a6n,h]
  exact hex _ ⟨by simp (disch:=omega) [go_sem,h],by simp only; omega⟩
theorem f35 (hS:SentO G bk) (hA:Around G bk) (g:Gr) (hf:∀ n∈g.nodes,n.sh) (hn:g.nodes.length < 2 ^ 36) (htot:tot (g.nodes.map (·.ins)) < 2 ^ 40)
  (hok:(ofR g).2.isNil=true->g.nodes.length<=64/\(∀ x∈(ofR g).1.ord,0<=x/\x < (g.nodes.length:Int))/\(ofR g).1.ord.length < 2 ^ 36/\(ofR g).1.descs.length=g.nodes.length/\∀ d∈(ofR g).1.descs,d.shape.length < 2 ^ 62) :
  ACalls pg G c4r [d6g g] (.tup [owS (a92 g).1.1,li (a92 g).1.2,a0s bk (a92 g).2]):=by
 have h1:=hS.val 6 (by decide)
 refine b8n rfl ?_
 simp (disch:=omega) [go_sem,b8m]
 refine a0k (g0i hS hA g hf hn htot) (by simp [go_sem,eSn,noRef]) (by simp (disch:=omega) [go_sem]) ?_
 rw [a92]
 generalize hr:ofR g=r at *
 obtain ⟨s,e⟩:=r
 simp only at hok ⊢
 cases he:e.isNil with
 | false=>
  simp (disch:=omega) [go_sem,he,a3c,eSn]
 | true=>
  obtain ⟨hl,hord,hol,hd,hsh⟩:=hok he
  obtain rfl:e= .nil:=by cases e<;>simp_all [Er.isNil]
  simp (disch:=omega) [go_sem,he,eSn]
  refine a82 (d4k hS.three g s hl htot hord hol hd hsh) (by simp [go_sem,noRef,eS]) ?_ ?_
  all_goals
   simp only [d07]
   have hso:(a5n g s).1.length=g.nodes.length:=by rw [a5n,c2v,b4c]; simp
   have hsr:=c2w (g:=g) (ds:=s.descs) (a:=atI s.ord g.nodes.length) (us:=a9d g) (i:=0) (out:=[]) (inn:=⟨-1,-1,0,4⟩) (by simp) (by simp)
   rw [<-a5n] at hsr
   generalize a5n g s=q at *
   obtain ⟨out,inn⟩:=q
   simp only at hso hsr ⊢
   simp (disch:=omega) [go_sem,eS]
   refine e2b (g:=g) (s:=s) (out:=out) (inn:=inn) hl hso hord hol (by simp (disch:=omega) [go_sem,eS,eSn,a5f,a3c]) (fun s1 h1'=> ?_)
   simp only [eS,eSn] at h1'
   have hmem:∀ x∈inn::b3z g out s.ord,x.len < 2 ^ 63:=by
    intro x hx
    rcases List.mem_cons.1 hx with hx | hx
    ·rw [hx]; exact hsr.2
    ·exact hsr.1 x (b6x (fun i hi=>by have:=hord i hi; omega) x hx)
   have hsl:=c1n (g:=g) (o1:=out) (is:=s.ord)
   have hpl:(a7k (inn::b3z g out s.ord)).1.length=1+(b3z g out s.ord).length:=by rw [a7k,c2p]; simp; omega
   have spec:=d31 (G:=G) (inn::b3z g out s.ord) (by simp; omega) hmem
   generalize inn::b3z g out s.ord=ll at *
   generalize a7k ll=p at *
   obtain ⟨offs,n⟩:=p
   simp only at hpl spec ⊢
   simp (disch:=omega) [go_sem,h1']
   refine a82 spec (by simp [go_sem,noRef]) ?_ ?_
   all_goals
    by_cases hn6:65536 < n
    ·simp (disch:=omega) [go_sem,h1',hn6]
     refine a0b ?_
     simp (disch:=omega) [go_sem,h1',h1]
     refine a0c (by decide) fun s2 hs2 hep=> ?_
     simp (disch:=omega) [go_sem,hs2,h1',a3c,a0s]
    ·have c0:0 < offs.length:=by omega
     simp (disch:=omega) [go_sem,h1',hn6,c0]
     refine e2c (g:=g) (s:=s) (out:=out) (inn:={ inn with off:=offs[0] }) (offs:=offs) (n:=n) hl hso hord hol hpl (by simp (disch:=omega) [go_sem,h1',eS,eSn,c0]) (fun s2 h2=> ?_)
     obtain ⟨h2,h2l⟩:=h2
     rw [g0v,b22 c0]
     generalize b03 g { inn with off:=offs[0] } offs out 1 true s.ord=pg2 at *
     obtain ⟨o2,b⟩:=pg2
     simp only [eS] at h2 h2l ⊢
     cases b
     ·simp (disch:=omega) [go_sem,h2,a0s]
     ·have hta:∀ vs:List AV,vs.length=4->(fm eS o2++vs).take ((o2.length+1)*4)=fm eS o2++vs:=fun vs hv=>List.take_of_length_le (by rw [List.length_append,c18,hv]; omega)
      simp (disch:=omega) [go_sem,h2,a0s,a5t,a5f,eS]
      exact hta _ rfl
end
end Go.Ideal.Tryd
end
section
namespace Go.Ideal.Tryd
def a3s:IC:=(.seq (.seq (.reg [om 21 7,
 om 22 0,
 oo 23 (.bin .lss 3 0 (.t 21) (.t 22) 3)]) (.cond (.t 23) .skip (.exit 0))) (.block 1 (.seq (.reg [om 24 0,
 oo 8 (.asg (.t 24))]) (.seq (.seq (.reg [om 25 0,
 om 26 7,
 oo 27 (.bin .sub 3 0 (.t 25) (.t 26) 3),
 om 28 5,
 oo 29 (.bin .gtr 3 0 (.t 27) (.t 28) 3)]) (.cond (.t 29) (.reg [om 30 7,
 om 31 5,
 oo 32 (.bin .add 3 0 (.t 30) (.t 31) 3),
 oo 8 (.asg (.t 32))]) .skip)) (.seq (.reg [om 33 6,
 om 34 7,
 om 35 8,
 oo 36 (.build 65 [.lit (.int .i64 0),.lit (.int .i64 0)] [(0,0,1,(.t 34)),(1,1,1,(.t 35))]),
 oo 37 (.bslice 63 65 2 1 [.lit (.int .i64 0),.lit (.int .i64 0)] [(0,(.t 36))]),
 oo 38 (.app 63 65 2 16 (.t 33) (.t 37)),
 oo 6 (.asg (.t 38))]) (.reg [om 39 8,
 oo 7 (.asg (.t 39))]))))))
def a3k:IC:=(.seq (.reg [oo 4 (.asg (.nl 2))]) (.seq (.seq (.reg [om 9 0,
 oo 10 (.bin .lss 3 0 (.t 9) (.n 1) 3),
 om 11 10,
 og 12 (.mv (.t 1)) 2 11 false,
 og 13 (.bin .lss 3 0 (.t 12) (.n 1) 3) 2 11 false,
 oo 14 (.pick (.t 11) (.c (.bool true)) (.t 13)),
 om 15 14,
 og 16 (.mv (.t 1)) 6 15 false,
 og 17 (.bin .gtr 3 0 (.t 16) (.n 1024) 3) 6 15 false,
 oo 18 (.pick (.t 15) (.c (.bool true)) (.t 17))]) (.cond (.t 18) (.seq (.reg [oo 4 (.asg (.nl 2))]) .ret) .skip)) (.seq (.reg [om 19 1,
 oo 20 (.bin .quo 3 0 (.n 1024) (.t 19) 3),
 oo 5 (.asg (.t 20))]) (.seq (.reg [oo 6 (.asg (.nl 2))]) (.seq (.seq (.reg [oo 7 (.asg (.n 0))]) (.block 0 (.loop a3s))) (.seq (.reg [om 40 6,
 oo 4 (.asg (.t 40))]) .ret))))))
abbrev b9w:Nat:=21
theorem b4m:fnC pg 21 41 [(.tmp 4)] a3k:=a05 Go.Proofs.Tryd.f21 [(.tmp 4)] (by kernel_rfl)
@[go_sem] theorem c9h:fnB pg 21=true:=by kernel_rfl
def a9z:IC:=(.seq (.reg [oo 46 (.bin .lss 3 0 (.t 45) (.t 44) 3)]) (.seq (.cond (.t 46) .skip (.exit 0)) (.seq (.block 1 (.seq (.reg [oo 47 (.iaddr 34 1 (.t 43) (.t 45)),
 oo 48 (.load 3 none (.t 47)),
 oo 9 (.asg (.t 48))]) (.seq (.reg [oo 50 (.load 49 (some 2) (.t 1)),
 oo 51 (.load 51 (some 5) (.t 4)),
 om 52 9,
 oc 53 48 [(false,(.t 50)),(false,(.t 51)),(false,(.t 52))] [49,51,3],
 oo 49 (.mva (.t 53)),
 oo 54 (.ext (.t 49) 0),
 oo 55 (.ext (.t 49) 1),
 oo 10 (.asg (.t 54)),
 oo 11 (.asg (.t 55))]) (.seq (.reg [om 56 11,
 oo 57 (.bin .gtr 3 0 (.t 56) (.n 1024) 3)]) (.cond (.t 57) (.seq (.draw [oo 58 (.build 27 [.lit (.int .i64 0),.sl 0 [],.sl 0 [],.sl 0 [],.sl 0 [],.lit (.int .i64 0),.lit (.int .i64 0)] []),
 om 59 9,
 oo 60 (.load 53 none (.g 2)),
 oo 61 (.build 108 [.lit (.int .i64 0),.lit .nilIface] [(0,0,1,(.t 59)),(1,1,1,(.t 60))]),
 oo 62 (.box 108 2 (.t 61)),
 oo 63 (.mki 106 (.t 62)),
 ov (.store 27 7 (.t 2) (.t 58)),
 oo 3 (.asg (.t 63))] [[],[],[],[1,2],[3],[4],[0,0],[5,6,0,1,2,3,4,5,6]]) .ret) .skip))))) (.reg [oo 64 (.bin .add 3 0 (.t 45) (.n 1) 3),
 om 45 64]))))
def a90:IC:=(.seq (.reg [oo 80 (.bin .lss 3 0 (.t 79) (.t 78) 3)]) (.seq (.cond (.t 80) .skip (.exit 2)) (.seq (.block 3 (.seq (.reg [oo 81 (.iaddr 24 2 (.t 77) (.t 79)),
 oo 82 (.load 39 (some 2) (.t 81)),
 oo 14 (.alloc 39 [.own 1 0 [],.lit (.bool false)]),
 ov (.store 39 2 (.t 14) (.t 82))]) (.draw [oo 83 (.faddr 27 3 (.t 12) 3),
 oo 84 (.load 24 none (.t 83)),
 oo 85 (.load 39 (some 2) (.t 14)),
 oc 86 26 [(false,(.t 85))] [39],
 oo 87 (.bslice 24 39 2 1 [.own 1 0 [],.lit (.bool false)] [(0,(.t 86))]),
 oo 88 (.app 24 39 2 32 (.t 84) (.t 87)),
 oo 89 (.faddr 27 3 (.t 12) 3),
 ov (.store 24 1 (.t 89) (.t 88))] [[],[0],[],[2],[3],[1,4,3],[0,1,2,3,4,5],[6,5,5,0,1,2,3,4,5]]))) (.reg [oo 90 (.bin .add 3 0 (.t 79) (.n 1) 3),
 om 79 90]))))
def a91:IC:=(.seq (.reg [oo 150 (.bin .lss 3 0 (.t 149) (.t 148) 3)]) (.seq (.cond (.t 150) .skip (.exit 6)) (.seq (.block 7 (.seq (.reg [oo 151 (.iaddr 63 2 (.t 147) (.t 149)),
 oo 152 (.load 65 (some 2) (.t 151)),
 oo 21 (.alloc 65 [.lit (.int .i64 0),.lit (.int .i64 0)]),
 ov (.store 65 2 (.t 21) (.t 152))]) (.seq (.reg [oo 153 (.load 36 (some 6) (.t 19)),
 oo 22 (.alloc 36 [.lit (.int .i64 0),.lit (.int .i64 0),.own 1 0 [],.own 1 0 [],.lit (.int .i64 0),.lit (.int .i64 0)]),
 ov (.store 36 6 (.t 22) (.t 153))]) (.seq (.draw [oo 154 (.faddr 36 2 (.t 19) 2),
 oo 155 (.load 34 none (.t 154)),
 oc 156 28 [(false,(.t 155))] [34],
 oo 157 (.faddr 36 3 (.t 19) 3),
 oo 158 (.load 34 none (.t 157)),
 oc 159 28 [(false,(.t 158))] [34],
 oo 160 (.aaddr 65 0 (.t 21) 0),
 oo 161 (.load 3 none (.t 160)),
 oo 162 (.aaddr 65 1 (.t 21) 1),
 oo 163 (.load 3 none (.t 162)),
 oo 164 (.faddr 36 2 (.t 22) 2),
 ov (.store 34 1 (.t 164) (.t 156)),
 oo 165 (.faddr 36 3 (.t 22) 3),
 ov (.store 34 1 (.t 165) (.t 159)),
 oo 166 (.faddr 36 4 (.t 22) 4),
 ov (.store 3 1 (.t 166) (.t 161)),
 oo 167 (.faddr 36 5 (.t 22) 5),
 ov (.store 3 1 (.t 167) (.t 163))] [[],[0],[1],[],[3],[4,2],[],[6],[],[8],[0,1,2],[10,2,5,0,1,2],[0,1,2,3,4,5,10,11],[12,5,11,0,1,2,3,4,5,10,11],[0,1,2,3,4,5,6,7,10,11,12,13],[14,7,13,0,1,2,3,4,5,6,7,10,11,12,13],[0,1,2,3,4,5,6,7,8,9,10,11,12,13,14,15],[16,9,15,0,1,2,3,4,5,6,7,8,9,10,11,12,13,14,15]]) (.seq (.reg [oo 168 (.faddr 27 4 (.t 12) 4),
 oo 169 (.load 25 none (.t 168)),
 oo 170 (.load 36 (some 6) (.t 22)),
 oo 171 (.bslice 25 36 6 1 [.lit (.int .i64 0),.lit (.int .i64 0),.own 1 0 [],.own 1 0 [],.lit (.int .i64 0),.lit (.int .i64 0)] [(0,(.t 170))]),
 oo 172 (.app 25 36 6 80 (.t 169) (.t 171)),
 oo 173 (.faddr 27 4 (.t 12) 4),
 ov (.store 25 1 (.t 173) (.t 172))]) (.seq (.reg [oo 174 (.faddr 27 4 (.t 12) 4),
 oo 175 (.load 25 none (.t 174)),
 oo 176 (.len 25 false (.t 175)),
 oo 177 (.bin .gtr 3 0 (.t 176) (.n 2048) 3)]) (.cond (.t 177) (.seq (.draw [oo 178 (.build 27 [.lit (.int .i64 0),.sl 0 [],.sl 0 [],.sl 0 [],.sl 0 [],.lit (.int .i64 0),.lit (.int .i64 0)] []),
 oo 179 (.load 53 none (.g 0)),
 ov (.store 27 7 (.t 2) (.t 178)),
 oo 3 (.asg (.t 179))] [[],[],[0,0],[1,2,0,1,2]]) .ret) .skip))))))) (.reg [oo 180 (.bin .add 3 0 (.t 149) (.n 1) 3),
 om 149 180]))))
def a72:IC:=(.seq (.reg [oo 99 (.bin .lss 3 0 (.t 98) (.t 97) 3)]) (.seq (.cond (.t 99) .skip (.exit 4)) (.seq (.block 5 (.seq (.reg [oo 100 (.iaddr 34 1 (.t 96) (.t 98)),
 oo 101 (.load 3 none (.t 100)),
 oo 17 (.asg (.t 101))]) (.seq (.reg [oo 102 (.faddr 49 0 (.t 1) 0),
 oo 103 (.load 47 none (.t 102)),
 om 104 17,
 oo 105 (.iaddr 47 6 (.t 103) (.t 104)),
 oo 106 (.load 46 (some 6) (.t 105)),
 oo 18 (.alloc 46 [.lit (.int .i64 0),.own 1 0 [],.own 1 0 [],.own 1 0 [],.lit (.bool false),.own 1 0 []]),
 ov (.store 46 6 (.t 18) (.t 106))]) (.seq (.seq (.reg [oo 107 (.faddr 46 0 (.t 18) 0),
 oo 108 (.load 3 none (.t 107)),
 oo 109 (.bin .eql 3 0 (.t 108) (.n 1) 3)]) (.cond (.t 109) (.exit 5) .skip)) (.seq (.reg [om 110 15,
 om 111 17,
 oo 112 (.faddr 27 1 (.t 12) 1),
 oo 113 (.load 22 none (.t 112)),
 oo 114 (.len 22 false (.t 113)),
 oo 115 (.iaddr 34 1 (.t 110) (.t 111)),
 ov (.store 3 1 (.t 115) (.t 114))]) (.seq (.draw [oo 116 (.faddr 27 1 (.t 12) 1),
 oo 117 (.load 22 none (.t 116)),
 om 118 6,
 om 119 17,
 oo 120 (.iaddr 101 4 (.t 118) (.t 119)),
 oo 121 (.faddr 110 2 (.t 120) 2),
 oo 122 (.load 3 none (.t 121)),
 oo 123 (.faddr 51 1 (.t 4) 1),
 oo 124 (.load 24 none (.t 123)),
 om 125 17,
 oo 126 (.iaddr 24 2 (.t 124) (.t 125)),
 oo 127 (.load 39 (some 2) (.t 126)),
 oc 128 26 [(false,(.t 127))] [39],
 oo 129 (.build 41 [.lit (.int .i64 0),.own 1 0 [],.lit (.bool false)] [(0,0,1,(.t 122)),(1,1,2,(.t 128))]),
 oo 130 (.bslice 22 41 3 1 [.lit (.int .i64 0),.own 1 0 [],.lit (.bool false)] [(0,(.t 129))]),
 oo 131 (.app 22 41 3 40 (.t 117) (.t 130)),
 oo 132 (.faddr 27 1 (.t 12) 1),
 ov (.store 22 1 (.t 132) (.t 131))] [[],[0],[],[],[2,3],[4],[5],[],[7],[],[8,9],[10],[11],[6,12],[13],[1,14,12],[0,1,2,3,4,5,6,7,8,9,10,11,12,13,14,15],[16,15,15,0,1,2,3,4,5,6,7,8,9,10,11,12,13,14,15]]) (.seq (.reg [oo 133 (.load 46 (some 6) (.t 18)),
 om 134 15,
 ⟨(some 135),.callx (.f 50) [(false,(.t 133))] [.l 12,.p 0,.x (.t 134)] [113,46,34],none⟩,
 oo 19 (.alloc 36 [.lit (.int .i64 0),.lit (.int .i64 0),.own 1 0 [],.own 1 0 [],.lit (.int .i64 0),.lit (.int .i64 0)]),
 ov (.store 36 6 (.t 19) (.t 135))]) (.seq (.reg [om 136 15,
 om 137 17,
 oo 138 (.iaddr 34 1 (.t 136) (.t 137)),
 oo 139 (.load 3 none (.t 138)),
 oo 140 (.faddr 36 1 (.t 19) 1),
 ov (.store 3 1 (.t 140) (.t 139))]) (.seq (.reg [oo 141 (.load 49 (some 2) (.t 1)),
 oo 142 (.load 51 (some 5) (.t 4)),
 om 143 17,
 oc 144 48 [(false,(.t 141)),(false,(.t 142)),(false,(.t 143))] [49,51,3],
 oo 145 (.ext (.t 144) 0),
 oo 146 (.ext (.t 144) 1),
 oc 147 21 [(false,(.t 145)),(false,(.t 146))] [3,3],
 oo 148 (.len 63 false (.t 147)),
 oo 149 (.mv (.n 0))]) (.block 6 (.loop a91))))))))))) (.reg [oo 181 (.bin .add 3 0 (.t 98) (.n 1) 3),
 om 98 181]))))
def c2f:IC:=(.seq (.reg [oo 1 (.box 49 2 (.t 0)),
 oo 2 (.alloc 27 [.lit (.int .i64 0),.own 3 0 [],.own 3 0 [],.own 2 0 [],.own 6 0 [],.lit (.int .i64 0),.lit (.int .i64 0)]),
 oo 3 (.asg (.c .nilIface))]) (.seq (.reg [oo 24 (.load 49 (some 2) (.t 1)),
 oc 25 15 [(false,(.t 24))] [49],
 oo 23 (.mva (.t 25)),
 oo 26 (.ext (.t 23) 0),
 oo 27 (.ext (.t 23) 1),
 oo 4 (.alloc 51 [.own 1 0 [],.own 2 0 [],.own 1 0 [],.lit (.bool false),.own 2 0 []]),
 ov (.store 51 5 (.t 4) (.t 26)),
 oo 5 (.asg (.t 27))]) (.seq (.seq (.reg [om 28 5,
 oo 29 (.bin .neq 53 2 (.t 28) (.c .nilIface) 53)]) (.cond (.t 29) (.seq (.reg [oo 30 (.build 27 [.lit (.int .i64 0),.sl 0 [],.sl 0 [],.sl 0 [],.sl 0 [],.lit (.int .i64 0),.lit (.int .i64 0)] []),
 om 31 5,
 ov (.store 27 7 (.t 2) (.t 30)),
 oo 3 (.asg (.t 31))]) .ret) .skip)) (.seq (.reg [oo 33 (.load 49 (some 2) (.t 1)),
 oc 34 47 [(false,(.t 33))] [49],
 oo 32 (.mva (.t 34)),
 oo 35 (.ext (.t 32) 0),
 oo 36 (.ext (.t 32) 1),
 oo 37 (.ext (.t 32) 2),
 oo 6 (.asg (.t 35)),
 oo 7 (.asg (.t 36)),
 oo 5 (.asg (.t 37))]) (.seq (.seq (.reg [om 38 5,
 oo 39 (.bin .neq 53 2 (.t 38) (.c .nilIface) 53)]) (.cond (.t 39) (.seq (.reg [oo 40 (.build 27 [.lit (.int .i64 0),.sl 0 [],.sl 0 [],.sl 0 [],.sl 0 [],.lit (.int .i64 0),.lit (.int .i64 0)] []),
 om 41 5,
 ov (.store 27 7 (.t 2) (.t 40)),
 oo 3 (.asg (.t 41))]) .ret) .skip)) (.seq (.seq (.reg [oo 42 (.faddr 51 0 (.t 4) 0),
 oo 43 (.load 34 none (.t 42)),
 oo 44 (.len 34 false (.t 43)),
 oo 45 (.mv (.n 0))]) (.block 0 (.loop a9z))) (.seq (.draw [om 65 7,
 oo 66 (.load 49 (some 2) (.t 1)),
 om 67 6,
 oc 68 49 [(false,(.t 66)),(false,(.t 67))] [49,101],
 oo 69 (.fld 110 2 (.t 68) 2),
 oo 70 (.faddr 51 2 (.t 4) 2),
 oo 71 (.load 39 (some 2) (.t 70)),
 oc 72 26 [(false,(.t 71))] [39],
 oo 73 (.build 41 [.lit (.int .i64 0),.own 1 0 [],.lit (.bool false)] [(0,0,1,(.t 69)),(1,1,2,(.t 72))]),
 oo 74 (.bslice 22 41 3 1 [.lit (.int .i64 0),.own 1 0 [],.lit (.bool false)] [(0,(.t 73))]),
 oo 75 (.build 27 [.lit (.int .i64 0),.own 3 0 [],.own 3 0 [],.own 2 0 [],.own 6 0 [],.lit (.int .i64 0),.lit (.int .i64 0)] [(0,0,1,(.t 65)),(1,1,1,(.t 74))]),
 oo 12 (.alloc 27 [.lit (.int .i64 0),.own 3 0 [],.own 3 0 [],.own 2 0 [],.own 6 0 [],.lit (.int .i64 0),.lit (.int .i64 0)]),
 ov (.store 27 7 (.t 12) (.t 75))] [[],[],[],[1,2],[3],[],[5],[6,3],[4,7],[8],[0,9],[],[11,10,7,0,1,2,3,4,5,6,7,8,9,10,11]]) (.seq (.seq (.reg [oo 76 (.faddr 51 4 (.t 4) 3),
 oo 77 (.load 24 none (.t 76)),
 oo 78 (.len 24 false (.t 77)),
 oo 79 (.mv (.n 0))]) (.block 2 (.loop a90))) (.seq (.reg [oo 91 (.faddr 49 0 (.t 1) 0),
 oo 92 (.load 47 none (.t 91)),
 oo 93 (.len 47 false (.t 92)),
 oo 94 (.mks 34 3 1 8 [.lit (.int .i64 0)] (.t 93) (.t 93)),
 oo 15 (.asg (.t 94))]) (.seq (.seq (.reg [oo 95 (.faddr 51 0 (.t 4) 0),
 oo 96 (.load 34 none (.t 95)),
 oo 97 (.len 34 false (.t 96)),
 oo 98 (.mv (.n 0))]) (.block 4 (.loop a72))) (.seq (.seq (.reg [oo 182 (.faddr 27 4 (.t 12) 4),
 oo 183 (.load 25 none (.t 182)),
 oo 184 (.build 36 [.lit (.int .i64 0),.lit (.int .i64 0),.own 1 0 [],.own 1 0 [],.lit (.int .i64 0),.lit (.int .i64 0)] [(0,0,1,(.n 24))]),
 oo 185 (.bslice 25 36 6 1 [.lit (.int .i64 0),.lit (.int .i64 0),.own 1 0 [],.own 1 0 [],.lit (.int .i64 0),.lit (.int .i64 0)] [(0,(.t 184))]),
 oo 186 (.app 25 36 6 80 (.t 183) (.t 185)),
 oo 187 (.faddr 27 4 (.t 12) 4),
 ov (.store 25 1 (.t 187) (.t 186))]) (.seq (.reg [oo 188 (.faddr 27 4 (.t 12) 4),
 oo 189 (.load 25 none (.t 188)),
 oo 190 (.len 25 false (.t 189)),
 oo 191 (.bin .gtr 3 0 (.t 190) (.n 2048) 3)]) (.cond (.t 191) (.seq (.draw [oo 192 (.build 27 [.lit (.int .i64 0),.sl 0 [],.sl 0 [],.sl 0 [],.sl 0 [],.lit (.int .i64 0),.lit (.int .i64 0)] []),
 oo 193 (.load 53 none (.g 0)),
 ov (.store 27 7 (.t 2) (.t 192)),
 oo 3 (.asg (.t 193))] [[],[],[0,0],[1,2,0,1,2]]) .ret) .skip))) (.seq (.reg [om 194 15,
 oo 195 (.faddr 49 1 (.t 1) 1),
 oo 196 (.load 3 none (.t 195)),
 oo 197 (.iaddr 34 1 (.t 194) (.t 196)),
 oo 198 (.load 3 none (.t 197)),
 oo 199 (.faddr 27 6 (.t 12) 6),
 ov (.store 3 1 (.t 199) (.t 198))]) (.seq (.reg [oo 200 (.load 27 (some 7) (.t 12)),
 ov (.store 27 7 (.t 2) (.t 200)),
 oo 3 (.asg (.c .nilIface))]) .ret)))))))))))))
abbrev c1v:Nat:=22
theorem c0v:fnC pg 22 201 [(.cells 2 7),(.tmp 3)] c2f:=a05 Go.Proofs.Tryd.f22 [(.cell 2 27),(.tmp 3)] (by kernel_rfl)
@[go_sem] theorem d6e:fnB pg 22=true:=by kernel_rfl
def a4n:IC:=(.seq (.reg [oo 11 (.bin .lss 3 0 (.t 10) (.t 9) 3)]) (.seq (.cond (.t 11) .skip (.exit 0)) (.seq (.block 1 (.seq (.reg [om 12 10,
 oo 13 (.iaddr 47 6 (.t 8) (.t 10)),
 oo 14 (.load 46 (some 6) (.t 13)),
 oo 6 (.alloc 46 [.lit (.int .i64 0),.own 1 0 [],.own 1 0 [],.own 1 0 [],.lit (.bool false),.own 1 0 []]),
 oo 5 (.asg (.t 12)),
 ov (.store 46 6 (.t 6) (.t 14))]) (.seq (.reg [oo 15 (.faddr 46 0 (.t 6) 0),
 oo 16 (.load 3 none (.t 15)),
 oo 17 (.bin .eql 3 0 (.t 16) (.n 1) 3)]) (.cond (.t 17) (.seq (.reg [om 18 1,
 om 19 5,
 oo 20 (.iaddr 101 4 (.t 18) (.t 19)),
 oo 21 (.load 110 (some 4) (.t 20)),
 ov (.store 110 4 (.t 4) (.t 21))]) .ret) .skip)))) (.reg [oo 22 (.bin .add 3 0 (.t 10) (.n 1) 3),
 om 10 22]))))
def b2z:IC:=(.seq (.reg [oo 2 (.box 49 2 (.t 0)),
 oo 4 (.alloc 110 [.lit (.int .i64 0),.lit (.int .i64 0),.lit (.int .i64 0),.lit (.int .i64 0)])]) (.seq (.seq (.reg [oo 7 (.faddr 49 0 (.t 2) 0),
 oo 8 (.load 47 none (.t 7)),
 oo 9 (.len 47 false (.t 8)),
 oo 10 (.mv (.n 0))]) (.block 0 (.loop a4n))) (.seq (.reg [om 23 1,
 om 24 1,
 oo 25 (.len 101 false (.t 24)),
 oo 26 (.bin .sub 3 0 (.t 25) (.n 1) 3),
 oo 27 (.iaddr 101 4 (.t 23) (.t 26)),
 oo 28 (.load 110 (some 4) (.t 27)),
 ov (.store 110 4 (.t 4) (.t 28))]) .ret)))
abbrev b9x:Nat:=49
theorem b4n:fnC pg 49 29 [(.cells 4 4)] b2z:=a05 Go.Proofs.Tryd.f49 [(.cell 4 110)] (by kernel_rfl)
@[go_sem] theorem c9i:fnB pg 49=true:=by kernel_rfl
def a5v:IC:=(.seq (.reg [oo 23 (.bin .lss 3 0 (.t 22) (.t 21) 3)]) (.seq (.cond (.t 23) .skip (.exit 1)) (.seq (.block 2 (.seq (.reg [oo 24 (.iaddr 34 1 (.t 20) (.t 22)),
 oo 25 (.load 3 none (.t 24)),
 oo 9 (.asg (.t 25))]) (.draw [oo 26 (.faddr 36 2 (.t 7) 2),
 oo 27 (.load 34 none (.t 26)),
 om 28 2,
 om 29 9,
 oo 30 (.iaddr 34 1 (.t 28) (.t 29)),
 oo 31 (.load 3 none (.t 30)),
 oo 32 (.bslice 34 3 1 1 [.lit (.int .i64 0)] [(0,(.t 31))]),
 oo 33 (.app 34 3 1 8 (.t 27) (.t 32)),
 oo 34 (.faddr 36 2 (.t 7) 2),
 ov (.store 34 1 (.t 34) (.t 33))] [[],[0],[],[],[2,3],[4],[5],[1,6],[0,1,2,3,4,5,6,7],[8,7,7,0,1,2,3,4,5,6,7]]))) (.reg [oo 35 (.bin .add 3 0 (.t 22) (.n 1) 3),
 om 22 35]))))
def b20:IC:=(.seq (.reg [oo 4 (.box 46 6 (.t 1)),
 oo 6 (.alloc 36 [.lit (.int .i64 0),.lit (.int .i64 0),.own 1 0 [],.own 1 0 [],.lit (.int .i64 0),.lit (.int .i64 0)])]) (.seq (.reg [oo 10 (.faddr 46 0 (.t 4) 0),
 oo 11 (.load 3 none (.t 10)),
 oo 12 (.faddr 46 2 (.t 4) 2),
 oo 13 (.load 34 none (.t 12)),
 oo 14 (.build 36 [.lit (.int .i64 0),.lit (.int .i64 0),.own 1 0 [],.own 1 0 [],.lit (.int .i64 0),.lit (.int .i64 0)] [(0,0,1,(.t 11)),(3,3,1,(.t 13))]),
 oo 7 (.alloc 36 [.lit (.int .i64 0),.lit (.int .i64 0),.own 1 0 [],.own 1 0 [],.lit (.int .i64 0),.lit (.int .i64 0)]),
 ov (.store 36 6 (.t 7) (.t 14))]) (.seq (.block 0 (.seq (.reg [oo 16 (.faddr 46 0 (.t 4) 0),
 oo 17 (.load 3 none (.t 16)),
 oc 18 63 [(false,(.t 17))] [3],
 oo 15 (.asg (.t 18))]) (.cond (.t 15) (.seq (.reg [oo 19 (.faddr 46 1 (.t 4) 1),
 oo 20 (.load 34 none (.t 19)),
 oo 21 (.len 34 false (.t 20)),
 oo 22 (.mv (.n 0))]) (.block 1 (.loop a5v))) (.seq (.reg [oo 37 (.faddr 46 0 (.t 4) 0),
 oo 38 (.load 3 none (.t 37)),
 oo 39 (.bin .eql 3 0 (.t 38) (.n 2) 3),
 oo 36 (.asg (.t 39))]) (.cond (.t 36) (.seq (.reg [om 40 0,
 oo 41 (.nilck (.t 40)),
 oo 42 (.faddr 27 2 (.t 41) 2),
 oo 43 (.load 23 none (.t 42)),
 oo 44 (.len 23 false (.t 43)),
 oo 45 (.bslice 34 3 1 1 [.lit (.int .i64 0)] [(0,(.t 44))]),
 oo 46 (.faddr 36 3 (.t 7) 3),
 ov (.store 34 1 (.t 46) (.t 45))]) (.draw [om 47 0,
 om 48 0,
 oo 49 (.nilck (.t 48)),
 oo 50 (.faddr 27 2 (.t 49) 2),
 oo 51 (.load 23 none (.t 50)),
 oo 52 (.faddr 46 3 (.t 4) 3),
 oo 53 (.load 44 (some 3) (.t 52)),
 oc 54 27 [(false,(.t 53))] [44],
 oo 55 (.bslice 23 44 3 1 [.own 1 0 [],.lit (.bool false),.own 1 0 []] [(0,(.t 54))]),
 oo 56 (.app 23 44 3 56 (.t 51) (.t 55)),
 oo 57 (.nilck (.t 47)),
 oo 58 (.faddr 27 2 (.t 57) 2),
 ov (.store 23 1 (.t 58) (.t 56))] [[],[],[1],[2],[3],[],[5],[6],[7],[4,8,7],[0,0,1,2,3,4,5,6,7,8,9],[10,0,1,2,3,4,5,6,7,8,9],[11,9,9,0,1,2,3,4,5,6,7,8,9]])) (.seq (.reg [oo 60 (.faddr 46 0 (.t 4) 0),
 oo 61 (.load 3 none (.t 60)),
 oo 62 (.bin .eql 3 0 (.t 61) (.n 3) 3),
 oo 59 (.asg (.t 62))]) (.cond (.t 59) (.reg [oo 63 (.faddr 46 2 (.t 4) 2),
 oo 64 (.load 34 none (.t 63)),
 oo 65 (.slice 34 1 (.t 64) none (some (.n 1)) none),
 oo 66 (.faddr 36 3 (.t 7) 3),
 ov (.store 34 1 (.t 66) (.t 65))]) .skip))))))) (.seq (.reg [oo 67 (.load 36 (some 6) (.t 7)),
 ov (.store 36 6 (.t 6) (.t 67))]) .ret))))
abbrev b9y:Nat:=50
@[go_sem] theorem c9j:fnB pg 50=true:=by kernel_rfl
theorem b21:fnX pg 50 68 [(.cells 6 6)] [(.cell 6 36)] b20:=c2c Go.Proofs.Tryd.f50 (by kernel_rfl)
def a5s:IC:=(.seq (.reg [oo 36 (.bin .lss 3 0 (.t 35) (.t 34) 3)]) (.seq (.cond (.t 36) .skip (.exit 0)) (.seq (.block 1 (.seq (.reg [oo 37 (.iaddr 34 1 (.t 33) (.t 35)),
 oo 38 (.load 3 none (.t 37)),
 oo 12 (.asg (.t 38))]) (.reg [om 39 10,
 oo 40 (.faddr 51 1 (.t 4) 1),
 oo 41 (.load 24 none (.t 40)),
 om 42 12,
 oo 43 (.iaddr 24 2 (.t 41) (.t 42)),
 oo 44 (.load 39 (some 2) (.t 43)),
 oo 45 (.bslice 24 39 2 1 [.own 1 0 [],.lit (.bool false)] [(0,(.t 44))]),
 oo 46 (.app 24 39 2 32 (.t 39) (.t 45)),
 oo 10 (.asg (.t 46))]))) (.reg [oo 47 (.bin .add 3 0 (.t 35) (.n 1) 3),
 om 35 47]))))
def b2s:IC:=(.seq (.reg [oo 3 (.box 49 2 (.t 0)),
 oo 4 (.box 51 5 (.t 1)),
 oo 6 (.asg (.n 0)),
 oo 7 (.asg (.n 0))]) (.seq (.reg [oo 15 (.faddr 49 0 (.t 3) 0),
 oo 16 (.load 47 none (.t 15)),
 om 17 2,
 oo 18 (.iaddr 47 6 (.t 16) (.t 17)),
 oo 19 (.load 46 (some 6) (.t 18)),
 oo 8 (.alloc 46 [.lit (.int .i64 0),.own 1 0 [],.own 1 0 [],.own 1 0 [],.lit (.bool false),.own 1 0 []]),
 ov (.store 46 6 (.t 8) (.t 19))]) (.seq (.reg [oo 20 (.faddr 51 1 (.t 4) 1),
 oo 21 (.load 24 none (.t 20)),
 om 22 2,
 oo 23 (.iaddr 24 2 (.t 21) (.t 22)),
 oo 24 (.faddr 39 0 (.t 23) 0),
 oo 25 (.load 34 none (.t 24)),
 oc 26 73 [(false,(.t 25))] [34],
 oo 9 (.asg (.t 26))]) (.seq (.seq (.reg [oo 27 (.faddr 46 0 (.t 8) 0),
 oo 28 (.load 3 none (.t 27)),
 oc 29 63 [(false,(.t 28))] [3],
 oo 30 (.un .not 4 (.t 29))]) (.cond (.t 30) (.seq (.reg [om 31 9,
 oo 6 (.asg (.t 31)),
 oo 7 (.asg (.n 1))]) .ret) .skip)) (.seq (.reg [oo 10 (.asg (.nl 2))]) (.seq (.seq (.reg [oo 32 (.faddr 46 1 (.t 8) 1),
 oo 33 (.load 34 none (.t 32)),
 oo 34 (.len 34 false (.t 33)),
 oo 35 (.mv (.n 0))]) (.block 0 (.loop a5s))) (.seq (.reg [oo 49 (.faddr 46 0 (.t 8) 0),
 oo 50 (.load 3 none (.t 49)),
 oo 51 (.faddr 46 2 (.t 8) 2),
 oo 52 (.load 34 none (.t 51)),
 om 53 10,
 oc 54 74 [(false,(.t 50)),(false,(.t 52)),(false,(.t 53))] [3,34,24],
 oo 48 (.mva (.t 54)),
 oo 55 (.ext (.t 48) 0),
 oo 56 (.ext (.t 48) 1),
 oo 13 (.asg (.t 55)),
 oo 14 (.asg (.t 56))]) (.seq (.reg [om 57 9,
 om 58 13,
 oo 6 (.asg (.t 57)),
 oo 7 (.asg (.t 58))]) .ret))))))))
abbrev b9v:Nat:=48
theorem b4k:fnC pg 48 59 [(.tmp 6),(.tmp 7)] b2s:=a05 Go.Proofs.Tryd.f48 [(.tmp 6),(.tmp 7)] (by kernel_rfl)
@[go_sem] theorem c8n:fnB pg 48=true:=by kernel_rfl
def a5w:IC:=(.seq (.reg [oo 0 (.asg (.c (.bool false)))]) (.seq (.reg [oo 4 (.bslice 34 3 1 2 [.lit (.int .i64 0)] [(0,(.n 0)),(1,(.n 2))]),
 oo 5 (.build 46 [.lit (.int .i64 0),.own 1 0 [],.own 1 0 [],.own 1 0 [],.lit (.bool false),.own 1 0 []] [(0,0,1,(.n 1)),(2,2,1,(.t 4))]),
 oo 6 (.bslice 47 46 6 1 [.lit (.int .i64 0),.own 1 0 [],.own 1 0 [],.own 1 0 [],.lit (.bool false),.own 1 0 []] [(0,(.t 5))]),
 oo 7 (.build 49 [.own 6 0 [],.lit (.int .i64 0)] [(0,0,1,(.t 6))]),
 oc 8 22 [(false,(.t 7))] [49],
 oo 3 (.mva (.t 8)),
 oo 9 (.ext (.t 3) 0),
 oo 10 (.ext (.t 3) 1),
 oo 1 (.alloc 27 [.lit (.int .i64 0),.own 3 0 [],.own 3 0 [],.own 2 0 [],.own 6 0 [],.lit (.int .i64 0),.lit (.int .i64 0)]),
 ov (.store 27 7 (.t 1) (.t 9)),
 oo 2 (.asg (.t 10))]) (.seq (.reg [om 11 2,
 oo 12 (.bin .eql 53 2 (.t 11) (.c .nilIface) 53),
 om 13 12,
 og 14 (.faddr 27 4 (.t 1) 4) 2 13 true,
 og 15 (.load 25 none (.t 14)) 2 13 true,
 og 16 (.len 25 false (.t 15)) 2 13 true,
 og 17 (.bin .eql 3 0 (.t 16) (.n 1) 3) 2 13 true,
 oo 18 (.pick (.t 13) (.t 17) (.c (.bool false))),
 om 19 18,
 og 20 (.faddr 27 4 (.t 1) 4) 8 19 true,
 og 21 (.load 25 none (.t 20)) 8 19 true,
 og 22 (.iaddr 25 6 (.t 21) (.n 0)) 8 19 true,
 og 23 (.faddr 36 0 (.t 22) 0) 8 19 true,
 og 24 (.load 3 none (.t 23)) 8 19 true,
 og 25 (.bin .eql 3 0 (.t 24) (.n 24) 3) 8 19 true,
 oo 26 (.pick (.t 19) (.t 25) (.c (.bool false))),
 oo 0 (.asg (.t 26))]) .ret)))
abbrev a9g:Nat:=20
theorem a76:fnC pg 20 27 [(.tmp 0)] a5w:=a05 Go.Proofs.Tryd.f20 [(.tmp 0)] (by kernel_rfl)
@[go_sem] theorem b9r:fnB pg 20=true:=by kernel_rfl
def a11:IC:=(.seq (.seq (.reg [om 22 8,
 om 23 6,
 oo 24 (.len 63 false (.t 23)),
 oo 25 (.bin .lss 3 0 (.t 22) (.t 24) 3)]) (.cond (.t 25) .skip (.exit 0))) (.seq (.block 1 (.seq (.draw [om 28 6,
 om 29 8,
 oo 30 (.iaddr 63 2 (.t 28) (.t 29)),
 oo 31 (.aaddr 65 1 (.t 30) 1),
 oo 32 (.load 3 none (.t 31)),
 om 33 6,
 om 34 8,
 oo 35 (.iaddr 63 2 (.t 33) (.t 34)),
 oo 36 (.aaddr 65 0 (.t 35) 0),
 oo 37 (.load 3 none (.t 36)),
 oo 38 (.bin .sub 3 0 (.t 32) (.t 37) 3),
 oo 9 (.asg (.t 38))] [[],[],[0,1],[2],[3],[],[],[5,6],[7],[8],[4,9],[10,0,1,2,3,4,5,6,7,8,9,10]]) (.seq (.seq (.reg [om 39 6,
 om 40 8,
 oo 41 (.iaddr 63 2 (.t 39) (.t 40)),
 oo 42 (.aaddr 65 0 (.t 41) 0),
 oo 43 (.load 3 none (.t 42)),
 om 44 7,
 oo 45 (.bin .neq 3 0 (.t 43) (.t 44) 3),
 om 46 45,
 og 47 (.mv (.t 9)) 7 46 false,
 og 48 (.bin .lss 3 0 (.t 47) (.n 1) 3) 7 46 false,
 oo 49 (.pick (.t 46) (.c (.bool true)) (.t 48)),
 om 50 49,
 og 51 (.mv (.t 9)) 11 50 false,
 og 52 (.mv (.t 1)) 11 50 false,
 og 53 (.bin .mul 3 0 (.t 51) (.t 52) 3) 11 50 false,
 og 54 (.bin .gtr 3 0 (.t 53) (.n 1024) 3) 11 50 false,
 oo 55 (.pick (.t 50) (.c (.bool true)) (.t 54)),
 om 56 55,
 og 57 (.mv (.t 8)) 17 56 false,
 og 58 (.bin .add 3 0 (.t 57) (.n 1) 3) 17 56 false,
 og 59 (.mv (.t 6)) 17 56 false,
 og 60 (.len 63 false (.t 59)) 17 56 false,
 og 61 (.bin .lss 3 0 (.t 58) (.t 60) 3) 17 56 false,
 og 62 (.mv (.t 61)) 17 56 false,
 og 63 (.mv (.t 9)) 23 62 true,
 og 64 (.bin .add 3 0 (.t 63) (.n 1) 3) 23 62 true,
 og 65 (.mv (.t 1)) 23 62 true,
 og 66 (.bin .mul 3 0 (.t 64) (.t 65) 3) 23 62 true,
 og 67 (.bin .leq 3 0 (.t 66) (.n 1024) 3) 23 62 true,
 og 68 (.pick (.t 62) (.t 67) (.c (.bool false))) 17 56 false,
 oo 69 (.pick (.t 56) (.c (.bool true)) (.t 68))]) (.cond (.t 69) (.seq (.reg [oo 4 (.asg (.c (.bool false)))]) .ret) .skip)) (.reg [om 70 6,
 om 71 8,
 oo 72 (.iaddr 63 2 (.t 70) (.t 71)),
 oo 73 (.aaddr 65 1 (.t 72) 1),
 oo 74 (.load 3 none (.t 73)),
 oo 7 (.asg (.t 74))])))) (.reg [om 26 8,
 oo 27 (.bin .add 3 0 (.t 26) (.n 1) 3),
 oo 8 (.asg (.t 27))])))
def a4o:IC:=(.seq (.reg [oo 4 (.asg (.c (.bool false)))]) (.seq (.reg [oc 10 20 [] [],
 oo 5 (.asg (.t 10))]) (.seq (.seq (.reg [om 11 5,
 oo 12 (.un .not 4 (.t 11))]) (.cond (.t 12) (.seq (.reg [oo 4 (.asg (.c (.bool false)))]) .ret) .skip)) (.seq (.reg [om 13 0,
 oc 14 13 [(false,(.t 13)),(false,(.n 16384))] [3,3],
 oo 15 (.bin .add 3 0 (.t 14) (.n 1) 3),
 oo 0 (.asg (.t 15))]) (.seq (.reg [om 16 1,
 oc 17 13 [(false,(.t 16)),(false,(.n 1024))] [3,3],
 oo 18 (.bin .add 3 0 (.t 17) (.n 1) 3),
 oo 1 (.asg (.t 18))]) (.seq (.reg [om 19 0,
 om 20 1,
 oc 21 21 [(false,(.t 19)),(false,(.t 20))] [3,3],
 oo 6 (.asg (.t 21))]) (.seq (.reg [oo 7 (.asg (.n 0))]) (.seq (.seq (.reg [oo 8 (.asg (.n 0))]) (.block 0 (.loop a11))) (.seq (.reg [om 75 5,
 om 76 75,
 og 77 (.mv (.t 7)) 1 76 true,
 og 78 (.mv (.t 0)) 1 76 true,
 og 79 (.bin .eql 3 0 (.t 77) (.t 78) 3) 1 76 true,
 oo 80 (.pick (.t 76) (.t 79) (.c (.bool false))),
 om 81 80,
 ⟨(some 82),.call 21 [(false,(.n 0)),(false,(.n 1))] [3,3],(some (6,81,true))⟩,
 og 83 (.len 63 false (.t 82)) 6 81 true,
 og 84 (.bin .eql 3 0 (.t 83) (.n 0) 3) 6 81 true,
 oo 85 (.pick (.t 81) (.t 84) (.c (.bool false))),
 om 86 85,
 ⟨(some 87),.call 21 [(false,(.n 5)),(false,(.n 1025))] [3,3],(some (11,86,true))⟩,
 og 88 (.len 63 false (.t 87)) 11 86 true,
 og 89 (.bin .eql 3 0 (.t 88) (.n 0) 3) 11 86 true,
 oo 90 (.pick (.t 86) (.t 89) (.c (.bool false))),
 om 91 90,
 ⟨(some 92),.call 21 [(false,(.n 5)),(false,(.n 0))] [3,3],(some (16,91,true))⟩,
 og 93 (.len 63 false (.t 92)) 16 91 true,
 og 94 (.bin .eql 3 0 (.t 93) (.n 0) 3) 16 91 true,
 oo 95 (.pick (.t 91) (.t 94) (.c (.bool false))),
 oo 4 (.asg (.t 95))]) .ret)))))))))
abbrev a7q:Nat:=5
theorem a6o:fnC pg 5 96 [(.tmp 4)] a4o:=a05 Go.Proofs.Tryd.f5 [(.tmp 4)] (by kernel_rfl)
@[go_sem] theorem b6l:fnB pg 5=true:=by kernel_rfl
end Go.Ideal.Tryd
end
section
namespace Go.Ideal.Tryd
attribute [local go_sem] eD eT eV
section
variable {G:GG} {bk:Nat->Nat×Nat} {Q:Exit->St->Prop} {st:St}
def c1t (op:Int) (args:List Int) (ins:List Ds):Int×Er:=if (opR op args ins).2.isNil=true then (opU op args ins,.nil) else (0,(opR op args ins).2)
theorem e3z (hS:SentO G bk) (op:Int) (args:List Int) (ins:List Ds) (hf:∀ d∈ins,d.shape.length < 2 ^ 40) (hn:ins.length < 2 ^ 40) (ha:args.length < 2 ^ 40):ACalls pg G b7j [li op,slI args,slD ins] (.tup [li (c1t op args ins).1,a0s bk (c1t op args ins).2]):=by
 by_cases hok:(opR op args ins).2.isNil=true
 ·have:=f44 hS op args ins hf hn ha hok
  simpa [c1t,hok,a0s] using this
 have h0:=d3s hS op args ins hf hn ha
 have hb:(opR op args ins).2.isNil=false:=by simpa using hok
 have hu:c1t op args ins=(0,(opR op args ins).2):=by rw [c1t,if_neg hok]
 rw [hu]
 generalize hr:opR op args ins=r at *
 refine b1o rfl ?_
 simp (disch:=omega) [go_sem,b3l]
 refine a0k h0 (a2q _) (by simp (disch:=omega) [go_sem]) ?_
 simp (disch:=omega) [go_sem,hb]
end
end Go.Ideal.Tryd
end
section
namespace Go.Ideal.Tryd
theorem b5a {ns:List Nd} (hf:∀ n∈ns,n.sh) {m:Nat} (hin:∀ n∈ns,∀ k∈n.ins,0<=k/\k < (m:Int)):∀ {is:List Int} {l:Lk},l.fin->l.descs.length=m->(∀ i∈is,0<=i/\i < (ns.length:Int))->(a3l ns l is).2.isNil=true->
  (a3l ns l is).1.ord=l.ord/\(a3l ns l is).1.descs.length=m/\(∀ d∈(a3l ns l is).1.descs,d.shape.length < 2 ^ 40)/\(a3l ns l is).1.hin.shape.length < 2 ^ 36/\(a3l ns l is).1.ws.length<=8
 | [],l,hl,hm,hi,h=>⟨rfl,hm,hl.descs,hl.hin,hl.ws⟩
 | i::is,l,hl,hm,hi,h=>by
  have hi0:=hi i (by simp)
  have hlt:i.toNat < ns.length:=by omega
  have hmem:=List.getElem_mem hlt
  have hfin:=b80 hl (hf _ hmem)
  have hlen:=b81 hl (hf _ hmem) (fun _ k hk=>by rw [hm]; exact hin _ hmem k hk)
  have hde:=b3i (l:=l) (n:=ns[i.toNat])
  have hnil:∀ e:Er,(atE i e).isNil=true->e.isNil=true:=by
   intro e; cases e<;>simp [atE,Er.isNil]
  rw [a3l,b22 hlt] at h ⊢
  generalize a39 l ns[i.toNat]=r at *
  obtain ⟨⟨d,e⟩,l2⟩:=r
  simp only at h hfin hlen hde ⊢
  cases he:e.isNil with
  | false=>
   rw [he] at h
   simp only [Bool.false_eq_true,if_false] at h
   rw [hnil e h] at he
   cases he
  | true=>
   rw [he] at h
   simp only [if_true] at h ⊢
   have:=b5a hf hin (l:={ l2 with descs:=l2.descs.set i.toNat d }) ⟨fun x hx=>by
    rcases List.mem_or_eq_of_mem_set hx with hx | rfl
    ·exact hfin.descs x hx
    ·exact hlen,hfin.hin,hfin.vals,hfin.ws⟩ (by simp only [List.length_set]; rw [hde.1]; exact hm) (fun k hk=>hi k (by simp [hk])) h
   exact ⟨this.1.trans hde.2,this.2⟩
theorem d1a {g:Gr} (hf:∀ n∈g.nodes,n.sh) (h:(ofR g).2.isNil=true) :
  g.nodes.length<=64/\(0<=g.out/\g.out < (g.nodes.length:Int))/\a97 (g.nodes.map (·.ins))= .ok (ofR g).1.ord/\(∀ x∈(ofR g).1.ord,0<=x/\x < (g.nodes.length:Int))/\(ofR g).1.ord.length=g.nodes.length/\(ofR g).1.descs.length=g.nodes.length/\(∀ d∈(ofR g).1.descs,d.shape.length < 2 ^ 40)/\(ofR g).1.hin.shape.length < 2 ^ 36/\(ofR g).1.ws.length<=8:=by
 unfold ofR at h ⊢
 by_cases c1:64 < g.nodes.length
 ·rw [if_pos c1] at h; simp [Er.isNil] at h
 rw [if_neg c1] at h ⊢
 by_cases c2:g.out < 0\/g.nodes.length<=g.out
 ·rw [if_pos c2] at h; simp [Er.isNil] at h
 rw [if_neg c2] at h ⊢
 have hr:∀ r∈g.nodes.map (·.ins),r.length < 2 ^ 61:=by
  intro r hr
  obtain ⟨n,hn,rfl⟩:=List.mem_map.1 hr
  have:=(hf n hn).ins
  omega
 cases ho:a97 (g.nodes.map (·.ins)) with
 | error e=>rw [ho] at h; simp [Er.isNil] at h
 | ok ord=>
  rw [ho] at h
  simp only at h ⊢
  have hx:=a7c hr ho
  have hl:=b87 hr ho
  simp only [List.length_map] at hx hl
  have:=b5a hf (m:=g.nodes.length) (fun n hn k hk=>hx.2.2.2.2 n.ins (List.mem_map.2 ⟨n,hn,rfl⟩) k hk) (is:=ord) (l:=lk0 ord g.nodes.length) ⟨fun d hd=>by
   simp only [lk0,List.mem_replicate] at hd
   rw [hd.2]; simp [dn],by simp [lk0,dn],by simp [lk0],by simp [lk0]⟩ (by simp [lk0]) hx.2.2.1 h
  obtain ⟨a1,a2,a3,a4,a5⟩:=this
  have e1:(lk0 ord g.nodes.length).ord=ord:=rfl
  rw [e1] at a1
  rw [a1]
  exact ⟨by omega,by omega,rfl,hx.2.2.1,hl,a2,a3,a4,a5⟩
end Go.Ideal.Tryd
end
section
namespace Go.Ideal.Tryd
def inN (args:List Int):Nd:=⟨1,[],args,[],false,[]⟩
end Go.Ideal.Tryd
end
section
namespace Go.Ideal.Tryd
def a4w (step elems:Int):Nat->Int->List (Int×Int)
 | 0,_=>[]
 | k+1,a=>if a < elems then (a,if step < elems - a then a+step else elems)::a4w step elems k (if step < elems - a then a+step else elems) else []
def a6y (elems unit:Int):List (Int×Int):=if elems < 1\/unit < 1\/1024 < unit then [] else a4w (1024 / unit) elems elems.toNat 0
def b4v (step:Int):Int->Int->List (Int×Int)->Prop
 | a,e,[]=>a=e
 | a,e,(x,y)::r=>x=a/\x < y/\y - x<=step/\(r≠[]->y - x=step)/\b4v step y e r
theorem a7h {step elems:Int} (hs:1<=step):∀ {k:Nat} {a:Int},a<=elems->elems - a<=k->b4v step a elems (a4w step elems k a)
 | 0,a,h,hk=>by
  show a=elems
  omega
 | k+1,a,h,hk=>by
  rw [a4w]
  by_cases c:a < elems
  ·rw [if_pos c]
   by_cases c2:step < elems - a
   ·rw [if_pos c2]
    exact ⟨rfl,by omega,by omega,fun _=>by omega,a7h hs (by omega) (by omega)⟩
   ·rw [if_neg c2]
    refine ⟨rfl,by omega,by omega,fun hne=> ?_,a7h hs (by omega) (by omega)⟩
    exfalso
    apply hne
    cases k with
    | zero=>rfl
    | succ k=>rw [a4w,if_neg (by omega)]
  ·rw [if_neg c]
   show a=elems
   omega
theorem b38 {step elems:Int}:∀ {k:Nat} {a:Int},(a4w step elems k a).length<=k
 | 0,a=>Nat.le_refl _
 | k+1,a=>by
  rw [a4w]
  split
  ·simpa using b38
  ·simp
theorem b08 {u:Int} (h1:1<=u) (h2:u<=1024):1<=1024 / u/\1024 / u*u<=1024/\1024 < (1024 / u+1)*u:=by
 refine ⟨(Int.le_ediv_iff_mul_le (by omega)).2 (by omega),Int.ediv_mul_le _ (by omega),?_⟩
 exact Int.lt_ediv_add_one_mul_self _ (by omega)
theorem b9k {e u:Int} (he:1<=e) (h1:1<=u) (h2:u<=1024):b4v (1024 / u) 0 e (a6y e u):=by
 rw [a6y,if_neg (by omega)]
 exact a7h (b08 h1 h2).1 (by omega) (by omega)
def a28 (ds:List Ds) (ks:List Int):List Ds:=ks.map fun k=>ds[k.toNat]!
def a7l (g:Gr) (s:Sn) (i:Int):Int×Int:=
 (a4l s.descs[i.toNat]!.shape,if a1x g.nodes[i.toNat]!.op=true then (c1t g.nodes[i.toNat]!.op g.nodes[i.toNat]!.args (a28 s.descs g.nodes[i.toNat]!.ins)).1 else 1)
def b77 (g:Gr) (s:Sn):List Int->Option Int
 | []=>none
 | i::is=>if 1024 < (a7l g s i).2 then some i else b77 g s is
def a5o (view ks:List Int):List Int:=ks.map fun k=>view[k.toNat]!
def a6k (cs:List Tn) (n:Nd) (view:List Int):In×List Tn:=
 if a1x n.op=true then (⟨n.op,0,a5o view n.ins,n.args,0,0⟩,cs)
 else if n.op=2 then (⟨n.op,0,[],[cs.length],0,0⟩,cs++[⟨n.shape,n.wide,n.data⟩])
 else if n.op=3 then (⟨n.op,0,[],n.args.take 1,0,0⟩,cs)
 else (⟨n.op,0,[],n.args,0,0⟩,cs)
def b1z (x:In):List In->List (Int×Int)->Option (List In)
 | code,[]=>some code
 | code,t::ts=>if 2048 < code.length+1 then none else b1z x (code++[{ x with frm:=t.1,to:=t.2 }]) ts
def b6d (g:Gr) (s:Sn) (sp:List Sp):Pl->List Int->List Int->Option (Pl×List Int)
 | p,view,[]=>some (p,view)
 | p,view,i::is=>
  if g.nodes[i.toNat]!.op=1 then b6d g s sp p view is
  else
   match b1z { (a6k p.consts g.nodes[i.toNat]! (view.set i.toNat p.views.length)).1 with dst:=p.views.length } p.code (a6y (a7l g s i).1 (a7l g s i).2) with
   | none=>none
   | some code=>b6d g s sp { p with views:=p.views++[⟨sp[i.toNat]!.off,s.descs[i.toNat]!.shape,s.descs[i.toNat]!.wide⟩],consts:=(a6k p.consts g.nodes[i.toNat]! (view.set i.toNat p.views.length)).2,code:=code } (view.set i.toNat p.views.length) is
def b4o (sp:List Sp):List Nd->Nat->Sp
 | [],_=>sp[sp.length - 1]!
 | n::ns,i=>if n.op=1 then sp[i]! else b4o sp ns (i+1)
def pl0:Pl:=⟨0,[],[],[],[],0,0⟩
def d22:In:=⟨24,0,[],[],0,0⟩
def c5y (out:Int):Option (Pl×List Int)->Pl×Er
 | none=>(pl0,.s 2)
 | some r=>if 2048 < r.1.code.length+1 then (pl0,.s 2) else ({ r.1 with code:=r.1.code++[d22],output:=r.2[out.toNat]! },.nil)
def e08 (g:Gr) (s:Sn) (sp:List Sp) (size:Int):Pl×Er:=
 match b77 g s s.ord with
 | some i=>(pl0,.at i (.s 9))
 | none=>c5y g.out (b6d g s sp ⟨size,[⟨(b4o sp g.nodes 0).off,s.hin.shape,s.hin.wide⟩],[],s.ws,[],0,0⟩ (List.replicate g.nodes.length 0) s.ord)
def d6d (g:Gr):Pl×Er:=
 if (ofR g).2.isNil=true then (if (a92 g).2.isNil=true then e08 g (ofR g).1 (a92 g).1.1 (a92 g).1.2 else (pl0,(a92 g).2)) else (pl0,(ofR g).2)
end Go.Ideal.Tryd
end
section
namespace Go.Ideal.Tryd
attribute [local go_sem] eD
structure SentG (G:GG) (bk:Nat->Nat×Nat):Prop where
 val:∀ g,g=0\/g=1\/g=2\/g=3\/g=4\/g=5\/g=6\/g=7->G g=some (.iface c24 (.pointer (some ⟨(bk (cn g)).1,(bk (cn g)).2,none⟩)))
theorem SentG.o {G:GG} {bk:Nat->Nat×Nat} (h:SentG G bk):SentO G bk:=⟨fun g hg=>h.val g (by omega)⟩
theorem Sent.g {G:GG} {bk:Nat->Nat×Nat} (h:Sent G bk):SentG G bk:=⟨fun g hg=>h.val g (by omega)⟩
section
variable {G:GG} {bk:Nat->Nat×Nat} {Q:Exit->St->Prop} {st:St}
@[simp] theorem c0n {ds:List Ds} {ks:List Int}:(a28 ds ks).length=ks.length:=by simp [a28]
@[go_sem] theorem g1w {xs:List Ds} {i:Nat} (h:i < xs.length):(fm eD xs)[i*2]? =some (slI xs[i].shape):=b15 (f:=eD) (k:=2) (j:=0) (fun _=>rfl) h (by omega)
theorem c96 {s:Sn} {n:Nd} {E:AV} (hi:∀ k∈n.ins,0<=k/\k < (s.descs.length:Int)) (hl:n.ins.length < 2 ^ 36)
  (h:st.s 4= .var (eSn s)/\st.s 8= .var (a4m n)/\st.s 9=E/\st.s 10= .own 2 0 []/\st.s 33=slI n.ins/\st.s 34=li n.ins.length/\st.s 35=li 0)
  (hex:∀ s':St,s'.s 4= .var (eSn s)/\s'.s 8= .var (a4m n)/\s'.s 9=E/\s'.s 10= .own 2 n.ins.length (fm eD (a28 s.descs n.ins))->Q (.exit 0) s'):AW pg G 59 (.loop a5s) Q st:=by
 refine a01 Nat (fun j st=>j<=n.ins.length/\st.s 4= .var (eSn s)/\st.s 8= .var (a4m n)/\st.s 9=E/\st.s 10= .own 2 j (fm eD (a28 s.descs (n.ins.take j)))/\st.s 33=slI n.ins/\st.s 34=li n.ins.length/\st.s 35=li j) (fun j=>n.ins.length - j) 0 ⟨by omega,by simpa [fm,a28] using h⟩ ?_
 clear h
 rintro j st K ⟨hj,h⟩ hK
 by_cases c:j < n.ins.length
 ·have hk:=hi _ (List.getElem_mem c)
  obtain ⟨kk,hkk⟩:∃ kk:Nat,n.ins[j]=kk:=⟨n.ins[j].toNat,by omega⟩
  rw [hkk] at hk
  have hk2:kk < s.descs.length:=by omega
  simp only [eSn] at h
  have ht:(fm eD (a28 s.descs (n.ins.take j))).take (j*2)=fm eD (a28 s.descs (n.ins.take j)):=b2g (fun _=>rfl) (by simp; omega)
  simp (disch:=omega) [go_sem,a5s,h,c,hkk,hk2]
  have e:s.descs[((kk:Int)).toNat]! =s.descs[kk]:=by simp [hk2]
  refine hK (j+1) _ ⟨by omega,?_⟩ (by omega)
  have e2:a28 s.descs (n.ins.take (j+1))=a28 s.descs (n.ins.take j)++[s.descs[kk]]:=by
   rw [List.take_succ_eq_append_getElem c,a28,List.map_append,List.map_cons,List.map_nil,hkk,e]; rfl
  rw [e2,a5t,a5f]
  simp (disch:=omega) [go_sem,h,eSn,ht]
 ·have:j=n.ins.length:=by omega
  subst this
  simp (disch:=omega) [go_sem,a5s,h]
  refine hex _ ?_
  rw [List.take_length] at h
  simp (disch:=omega) [go_sem,h]
theorem c6r (hS:SentO G bk) (g:Gr) (s:Sn) (i:Nat) (hi:i < g.nodes.length) (hd:i < s.descs.length) (hn:g.nodes[i].sh) (hins:∀ k∈g.nodes[i].ins,0<=k/\k < (s.descs.length:Int)) (hds:∀ d∈s.descs,d.shape.length < 2 ^ 40) :
  ACalls pg G b9v [d6g g,.agg (eSn s),li i] (.tup [li (a7l g s i).1,li (a7l g s i).2]):=by
 have hn1:=hn.ins
 have hn2:=hn.args
 have hdl:=hds _ (List.getElem_mem hd)
 have hp:a7l g s i=(a4l s.descs[i].shape,if a1x g.nodes[i].op=true then (c1t g.nodes[i].op g.nodes[i].args (a28 s.descs g.nodes[i].ins)).1 else 1):=by
  rw [a7l,Int.toNat_natCast,b22 hi,b22 hd]
 rw [hp]
 clear hp
 refine b4k rfl ?_
 simp (disch:=omega) [go_sem,b2s,eSn,hi,hd]
 refine a0i (a9t hS.three s.descs[i].shape (by omega)) rfl rfl ?_
 simp (disch:=omega) [go_sem]
 refine a0i (b24 g.nodes[i].op) rfl rfl ?_
 cases hk:a1x g.nodes[i].op with
 | false=>simp (disch:=omega) [go_sem,hk]
 | true=>
  simp (disch:=omega) [go_sem,hk]
  refine c96 (s:=s) (n:=g.nodes[i]) (E:=li (a4l s.descs[i].shape)) hins hn1 (by simp (disch:=omega) [go_sem,a4m,eSn]) (fun s1 h=> ?_)
  simp only [a4m] at h
  simp (disch:=omega) [go_sem,h]
  have spec:=e3z hS g.nodes[i].op g.nodes[i].args (a28 s.descs g.nodes[i].ins) (by
   intro d hd
   simp only [a28,List.mem_map] at hd
   obtain ⟨k,hk2,rfl⟩:=hd
   obtain ⟨h1,h2⟩:=hins k hk2
   have hlt:k.toNat < s.descs.length:=by omega
   rw [b22 hlt]
   exact hds _ (List.getElem_mem hlt)) (by simp; omega) (by omega)
  simp only [slD,c0n] at spec
  have ht:(fm eD (a28 s.descs g.nodes[i].ins)).take (g.nodes[i].ins.length*2)=fm eD (a28 s.descs g.nodes[i].ins):=b2g (fun _=>rfl) (by simp)
  simp (disch:=omega) [go_sem,ht]
  refine a82 spec (by simp [go_sem,noRef]) ?_ ?_<;>
  simp (disch:=omega) [go_sem,h,hk]
theorem c9n {g:Gr} {sp:List Sp} (hl:g.nodes.length < 2 ^ 40) (hsp:g.nodes.length<=sp.length)
  (h:st.s 1=slS sp/\st.s 2= .var [slN g.nodes,li g.out]/\st.s 4= .var [li 0,li 0,li 0,li 0]/\st.s 8=slN g.nodes/\st.s 9=li g.nodes.length/\st.s 10=li 0)
  (hret:∀ x,b4o sp g.nodes 0=x->∀ s':St,s'.s 4= .var (eS x)->Q .ret s')
  (hex:b4o sp g.nodes 0=sp[sp.length - 1]! ->∀ s':St,s'.s 1=slS sp/\s'.s 4= .var [li 0,li 0,li 0,li 0]->Q (.exit 0) s'):AW pg G 29 (.loop a4n) Q st:=by
 refine a01 Nat (fun j st=>j<=g.nodes.length/\b4o sp (g.nodes.drop j) j=b4o sp g.nodes 0/\st.s 1=slS sp/\st.s 2= .var [slN g.nodes,li g.out]/\st.s 4= .var [li 0,li 0,li 0,li 0]/\st.s 8=slN g.nodes/\st.s 9=li g.nodes.length/\st.s 10=li j) (fun j=>g.nodes.length - j) 0 ⟨by omega,by simp,by simpa using h⟩ ?_
 clear h
 rintro j st K ⟨hj,hm,h⟩ hK
 by_cases c:j < g.nodes.length
 ·have c2:j < sp.length:=by omega
  rw [List.drop_eq_getElem_cons c,b4o,b22 c2] at hm
  by_cases ho:g.nodes[j].op=1
  ·rw [if_pos ho] at hm
   simp (disch:=omega) [go_sem,a4n,h,c,c2,ho]
   exact hret _ hm.symm _ (by simp (disch:=omega) [go_sem,h,eS])
  ·rw [if_neg ho] at hm
   simp (disch:=omega) [go_sem,a4n,h,c,c2,ho]
   exact hK (j+1) _ ⟨by omega,hm,by simp (disch:=omega) [go_sem,h]⟩ (by omega)
 ·have:j=g.nodes.length:=by omega
  subst this
  rw [List.drop_length,b4o] at hm
  simp (disch:=omega) [go_sem,a4n,h]
  exact hex hm.symm _ (by simp (disch:=omega) [go_sem,h])
theorem d25 (g:Gr) (sp:List Sp) (hl:g.nodes.length < 2 ^ 40) (hsp:g.nodes.length<=sp.length) (hs2:sp.length < 2 ^ 40) (h0:0 < sp.length):ACalls pg G b9x [d6g g,slS sp] (.agg (eS (b4o sp g.nodes 0))):=by
 refine b4n rfl ?_
 simp (disch:=omega) [go_sem,b2z]
 refine c9n (g:=g) (sp:=sp) hl hsp (by simp (disch:=omega) [go_sem]) (fun x hx s h=> ?_) (fun hx s h=> ?_)
 ·subst hx
  simp (disch:=omega) [go_sem,h,eS]
 ·have h1:sp.length - 1 < sp.length:=by omega
  rw [hx,b22 h1]
  have e1:((sp.length:Int) - 1)=((sp.length - 1:Nat):Int):=by omega
  simp (disch:=omega) [go_sem,h,e1,h1,eS]
end
end Go.Ideal.Tryd
end
section
namespace Go.Ideal.Tryd
theorem b0h {laid:List (String×DataW Unit)} {hs:List (Nat×Value)} {W:World} (h:laidMet pg laid W) (hc:b9g [0,1,2,3,4,5,6,7] laid=true) (hhs:∀ p∈hs,p.1 < W.heap.size/\∃ cur T fz,W.heap[p.1]? =some (.cells cur T fz)/\cur[0]? =some p.2):∃ (G:GG) (bk:Nat->Nat×Nat),G.hs=hs/\SentG G bk/\∀ g v,G.at g v->GC G W g v/\g < W.heap.size:=by
 have key:∀ g,g=0\/g=1\/g=2\/g=3\/g=4\/g=5\/g=6\/g=7->g∈([0,1,2,3,4,5,6,7]:List Nat):=fun g hg=>by simp; omega
 obtain ⟨G,bk,h0,⟨h1,h2,h3⟩,h4⟩:=b6y (L:=[0,1,2,3,4,5,6,7]) (hs:=hs) (by decide) h hc hhs
 refine ⟨G,fun c=>bk (gn c),h0,⟨fun g hg=> ?_⟩,h4⟩
 simp only [f25 g (List.all_eq_true.1 (show ([0,1,2,3,4,5,6,7]:List Nat).all (fun g=>decide (g∈d0b))=true by decide) g (key g hg) |> of_decide_eq_true)]
 exact h1 g (key g hg)
def gP (p:Pl):List AV:=[li p.size,owV p.views,owT p.consts,owD p.weights,.own 6 p.code.length (fm eI p.code),li p.input,li p.output]
section
variable {G:GG} {bk:Nat->Nat×Nat} {Q:Exit->St->Prop} {st:St}
@[simp] theorem d4q {v ks:List Int}:(a5o v ks).length=ks.length:=by simp [a5o]
theorem c51 {p:Pl} {n:Nd} {view:List Int} (hi:∀ k∈n.ins,0<=k/\k < (view.length:Int)) (hl:n.ins.length < 2 ^ 36)
  (h:st.s 0= .var (gP p)/\st.s 2=owI view/\st.s 4= .var (a4m n)/\st.s 6= .var [li 0,li 0,.own 1 0 [],.own 1 0 [],li 0,li 0]/\st.s 7= .var [li n.op,li 0,.own 1 0 [],slI n.args,li 0,li 0]/\st.s 20=slI n.ins/\st.s 21=li n.ins.length/\st.s 22=li 0)
  (hex:∀ s':St,s'.s 0= .var (gP p)/\s'.s 2=owI view/\s'.s 4= .var (a4m n)/\s'.s 6= .var [li 0,li 0,.own 1 0 [],.own 1 0 [],li 0,li 0]/\s'.s 7= .var [li n.op,li 0,owI (a5o view n.ins),slI n.args,li 0,li 0]->Q (.exit 1) s'):AW pg G 68 (.loop a5v) Q st:=by
 refine a01 Nat (fun j st=>j<=n.ins.length/\st.s 0= .var (gP p)/\st.s 2=owI view/\st.s 4= .var (a4m n)/\st.s 6= .var [li 0,li 0,.own 1 0 [],.own 1 0 [],li 0,li 0]/\st.s 7= .var [li n.op,li 0,owI (a5o view (n.ins.take j)),slI n.args,li 0,li 0]/\st.s 20=slI n.ins/\st.s 21=li n.ins.length/\st.s 22=li j) (fun j=>n.ins.length - j) 0 ⟨by omega,by simpa [a5o,owI] using h⟩ ?_
 clear h
 rintro j st K ⟨hj,h⟩ hK
 by_cases c:j < n.ins.length
 ·have hk:=hi _ (List.getElem_mem c)
  obtain ⟨kk,hkk⟩:∃ kk:Nat,n.ins[j]=kk:=⟨n.ins[j].toNat,by omega⟩
  rw [hkk] at hk
  have hk2:kk < view.length:=by omega
  have e:view[((kk:Int)).toNat]! =view[kk]:=by simp [hk2]
  have e2:a5o view (n.ins.take (j+1))=a5o view (n.ins.take j)++[view[kk]]:=by
   rw [List.take_succ_eq_append_getElem c,a5o,List.map_append,List.map_cons,List.map_nil,hkk,e]; rfl
  have hlv:(a5o view (n.ins.take j)).length=j:=by simp; omega
  generalize hv:a5o view (n.ins.take j)=vs at *
  simp only [gP] at h
  simp (disch:=omega) [go_sem,a5v,h,c,hkk,hk2]
  refine a0b ?_
  simp (disch:=omega) [go_sem,h,hkk,hk2]
  refine a0c (by decide) fun s3 hs3 hep3=> ?_
  simp (disch:=omega) [go_sem,hs3,hep3,h,hkk,hk2]
  refine hK (j+1) _ ⟨by omega,?_⟩ (by omega)
  rw [e2]
  simp (disch:=omega) [go_sem,hs3,hep3,h,hkk,hk2,gP]
 ·have:j=n.ins.length:=by omega
  subst this
  rw [List.take_length] at h
  simp (disch:=omega) [go_sem,a5v,h]
  exact hex _ (by simp (disch:=omega) [go_sem,h])
theorem d26 (p:Pl) (n:Nd) (view:List Int) (hn:n.sh) (hi:∀ k∈n.ins,0<=k/\k < (view.length:Int)) (hw:n.op=3->0 < n.args.length) (hc:p.consts.length < 2 ^ 36) :
  ACallsX pg G b9y [.var (gP p),.agg (a4m n),owI view] (.agg (eI (a6k p.consts n view).1)) [(0,.var (gP { p with consts:=(a6k p.consts n view).2 })),(2,owI view)]:=by
 have hn1:=hn.ins
 have hn2:=hn.args
 have hn3:=hn.shape
 have hn4:=hn.data
 refine b21 (pins:=[0,2]) (by kernel_rfl) rfl rfl (by simp [go_sem]) rfl ?_
 simp (disch:=omega) [go_sem,b20,a4m]
 refine a0i (b24 n.op) rfl rfl ?_
 cases hk:a1x n.op with
 | true=>
  simp (disch:=omega) [go_sem,hk]
  refine c51 (p:=p) (n:=n) (view:=view) hi hn1 (by simp (disch:=omega) [go_sem,a4m]) (fun s h=> ?_)
  simp only [gP] at h
  simp (disch:=omega) [go_sem,h,a6k,hk,gP,eI]
 | false=>
  simp (disch:=omega) [go_sem,hk]
  by_cases h2:n.op=2
  ·have spec:=c8h (G:=G) n.shape n.wide n.data (by omega) (by omega)
   simp (disch:=omega) [go_sem,h2,gP]
   refine b2e [(0,0),(7,1)] (by simp) (by simp (disch:=omega) [go_sem]) ?_
   simp (disch:=omega) [go_sem]
   refine a0w spec rfl (by simp [a0x,a0y,a1h]) (by simp) [54,53] (by simp) (by simp (disch:=omega) [go_sem]) ?_
   simp (disch:=omega) [go_sem]
   refine a0c (by decide) fun s2 hs2 hep=> ?_
   simp (disch:=omega) [go_sem,hs2,hep,a6k,hk,h2,gP,eI,a5t,a5f,oT,show a1x 2=false from rfl]
  ·by_cases h3:n.op=3
   ·have:=hw h3
    simp (disch:=omega) [go_sem,h2,h3]
    simp (disch:=omega) [go_sem,a6k,hk,h2,h3,gP,eI,show a1x 3=false from rfl]
   ·simp (disch:=omega) [go_sem,h2,h3]
    simp (disch:=omega) [go_sem,a6k,hk,h2,h3,gP,eI]
end
end Go.Ideal.Tryd
end
section
namespace Go.Ideal.Tryd
attribute [local go_sem] eD
abbrev zP:AV:= .var [li 0,.own 3 0 [],.own 3 0 [],.own 2 0 [],.own 6 0 [],li 0,li 0]
section
variable {G:GG} {bk:Nat->Nat×Nat} {Q:Exit->St->Prop} {st:St}
theorem e09 (hS:SentG G bk) {g:Gr} {s:Sn} {sp:List Sp} {size:Int} (hn:∀ n∈g.nodes,n.sh) (hins:∀ n∈g.nodes,∀ k∈n.ins,0<=k/\k < (g.nodes.length:Int)) (hl:g.nodes.length<=64)
  (hdl:s.descs.length=g.nodes.length) (hds:∀ d∈s.descs,d.shape.length < 2 ^ 40) (hord:∀ x∈s.ord,0<=x/\x < (g.nodes.length:Int)) (hol:s.ord.length < 2 ^ 36)
  (h:st.s 1= .var [slN g.nodes,li g.out]/\st.s 2=zP/\st.s 3= .lit .nilIface/\st.s 4= .var (eSn s)/\st.s 6=owS sp/\st.s 7=li size/\st.s 43=slI s.ord/\st.s 44=li s.ord.length/\st.s 45=li 0)
  (hret:∀ i,b77 g s s.ord=some i->∀ s':St,s'.s 2= .var (eP pl0)/\s'.s 3=a0s bk (.at i (.s 9))->Q .ret s')
  (hex:b77 g s s.ord=none->∀ s':St,s'.s 1= .var [slN g.nodes,li g.out]/\s'.s 2=zP/\s'.s 3= .lit .nilIface/\s'.s 4= .var (eSn s)/\s'.s 6=owS sp/\s'.s 7=li size->Q (.exit 0) s'):AW pg G 201 (.loop a9z) Q st:=by
 have h9:=hS.val 2 (by decide)
 refine a01 Nat (fun j st=>j<=s.ord.length/\b77 g s (s.ord.drop j)=b77 g s s.ord/\st.s 1= .var [slN g.nodes,li g.out]/\st.s 2=zP/\st.s 3= .lit .nilIface/\st.s 4= .var (eSn s)/\st.s 6=owS sp/\st.s 7=li size/\st.s 43=slI s.ord/\st.s 44=li s.ord.length/\st.s 45=li j) (fun j=>s.ord.length - j) 0 ⟨by omega,by simp,by simpa using h⟩ ?_
 clear h
 rintro j st K1 ⟨hj,hm,h⟩ hK
 by_cases c:j < s.ord.length
 ·have hx:=hord _ (List.getElem_mem c)
  obtain ⟨i,hi⟩:∃ i:Nat,s.ord[j]=i:=⟨s.ord[j].toNat,by omega⟩
  rw [hi] at hx
  have c1:i < g.nodes.length:=by omega
  have hmem:=List.getElem_mem c1
  have spec:=c6r (G:=G) hS.o g s i c1 (by omega) (hn _ hmem) (fun k hk=>by rw [hdl]; exact hins _ hmem k hk) hds
  rw [List.drop_eq_getElem_cons c,b77,hi] at hm
  generalize a7l g s (i:Int)=pr at *
  obtain ⟨el,un⟩:=pr
  simp only at hm spec
  simp only [eSn] at spec
  simp (disch:=omega) [go_sem,a9z,h,c,hi,eSn]
  refine a0i spec rfl rfl ?_
  by_cases hu:1024 < un
  ·rw [if_pos hu] at hm
   simp (disch:=omega) [go_sem,h,hu,eSn]
   refine a0b ?_
   simp (disch:=omega) [go_sem,h,h9]
   refine a0c (by decide) fun s2 hs2 hep=> ?_
   simp (disch:=omega) [go_sem,hs2,h]
   exact hret i hm.symm _ (by simp (disch:=omega) [go_sem,hs2,h,a0s,eP,pl0,a3c])
  ·rw [if_neg hu] at hm
   simp (disch:=omega) [go_sem,h,hu,eSn]
   exact hK (j+1) _ ⟨by omega,hm,by simp (disch:=omega) [go_sem,h,eSn]⟩ (by omega)
 ·have:j=s.ord.length:=by omega
  subst this
  rw [List.drop_length,b77] at hm
  simp (disch:=omega) [go_sem,a9z,h]
  exact hex hm.symm _ (by simp (disch:=omega) [go_sem,h])
theorem e1a {g:Gr} {s:Sn} {sp:List Sp} {size:Int} {p:Pl} (hw:s.ws.length < 2 ^ 30) (hws:∀ d∈s.ws,d.shape.length < 2 ^ 40) (hp:p.weights=[])
  (h:st.s 1= .var [slN g.nodes,li g.out]/\st.s 2=zP/\st.s 3= .lit .nilIface/\st.s 4= .var (eSn s)/\st.s 6=owS sp/\st.s 7=li size/\st.s 12= .var (gP p)/\st.s 77=slD s.ws/\st.s 78=li s.ws.length/\st.s 79=li 0)
  (hex:∀ s':St,(s'.s 1= .var [slN g.nodes,li g.out]/\s'.s 2=zP/\s'.s 3= .lit .nilIface/\s'.s 4= .var (eSn s)/\s'.s 6=owS sp/\s'.s 7=li size/\s'.s 12= .var (gP { p with weights:=s.ws }))->Q (.exit 2) s'):AW pg G 201 (.loop a90) Q st:=by
 refine a01 Nat (fun j st=>j<=s.ws.length/\st.s 1= .var [slN g.nodes,li g.out]/\st.s 2=zP/\st.s 3= .lit .nilIface/\st.s 4= .var (eSn s)/\st.s 6=owS sp/\st.s 7=li size/\st.s 12= .var (gP { p with weights:=s.ws.take j })/\st.s 77=slD s.ws/\st.s 78=li s.ws.length/\st.s 79=li j) (fun j=>s.ws.length - j) 0 ⟨by omega,by rw [List.take_zero,<-hp]; exact h⟩ ?_
 clear h
 rintro j st K1 ⟨hj,h⟩ hK
 by_cases c:j < s.ws.length
 ·have hlw:=hws _ (List.getElem_mem c)
  have e2:s.ws.take (j+1)=s.ws.take j++[s.ws[j]]:=List.take_succ_eq_append_getElem c
  have hlv:(s.ws.take j).length=j:=by simp; omega
  generalize hv:s.ws.take j=vs at *
  simp only [gP] at h
  have spec:=a15 (G:=G) s.ws[j].shape s.ws[j].wide (by omega)
  simp (disch:=omega) [go_sem,a90,h,c]
  refine b2e [(12,st.ep 12)] (by simp) (by simp (disch:=omega) [go_sem,h]) ?_
  simp (disch:=omega) [go_sem,h]
  refine a0w spec rfl (by simp [a0x,a0y,a1h]) (by simp) [86,85] (by simp) (by simp (disch:=omega) [go_sem,h]) ?_
  simp (disch:=omega) [go_sem,h]
  refine a0c (by decide) fun s2 hs2 hep=> ?_
  simp (disch:=omega) [go_sem,hs2,hep,h]
  refine hK (j+1) _ ⟨by omega,?_⟩ (by omega)
  rw [e2]
  simp (disch:=omega) [go_sem,hs2,hep,h,gP,a5t,a5f,oD]
 ·have:j=s.ws.length:=by omega
  subst this
  rw [List.take_length] at h
  simp (disch:=omega) [go_sem,a90,h]
  exact hex _ (by simp (disch:=omega) [go_sem,h])
end
end Go.Ideal.Tryd
end
section
namespace Go.Ideal.Tryd
def eT2 (t:Int×Int):List AV:=[li t.1,li t.2]
@[go_sem] theorem f1m {xs:List (Int×Int)}:(fm eT2 xs).length=xs.length*2:=a5u fun _=>rfl
@[go_sem] theorem f1l {xs:List (Int×Int)} {i:Nat} (h:i < xs.length):((fm eT2 xs).drop (i*2)).take 2=[li xs[i].1,li xs[i].2]:=a9y (f:=eT2) (k:=2) (fun _=>rfl) h
@[go_sem] theorem e63 {xs:List (Int×Int)}:(fm eT2 xs).take (xs.length*2)=fm eT2 xs:=a3w fun _=>rfl
@[go_sem] theorem d9x {xs:List (Int×Int)}:a0m (fm eT2 xs)=true:=a62 fun _=>rfl
@[go_sem] theorem f1k {xs:List (Int×Int)}:a1l (fm eT2 xs)=fm eT2 xs:=by
 rw [a6i]; congr 1
@[go_sem] theorem d9w {xs:List (Int×Int)}:a0y (fm eT2 xs)=true:=a61 fun n=>by simp [eT2,go_sem]
abbrev d1e (l:List (Int×Int)):AV:= .own 2 l.length (fm eT2 l)
section
variable {G:GG} {bk:Nat->Nat×Nat} {Q:Exit->St->Prop} {st:St}
theorem d0i {elems step:Int} (hs:1<=step/\step<=1024) (he:0<=elems/\elems < 2 ^ 40)
  (h:st.s 0=li elems/\st.s 5=li step/\st.s 6=d1e []/\st.s 7=li 0)
  (hex:∀ s:St,s.s 6=d1e (a4w step elems elems.toNat 0)->Q (.exit 0) s):AW pg G 41 (.loop a3s) Q st:=by
 refine a01 (Nat×Int×List (Int×Int)) (fun p st=>0<=p.2.1/\p.2.1<=elems/\elems - p.2.1<=p.1/\(p.2.2.length:Int)<=p.2.1/\p.2.2++a4w step elems p.1 p.2.1=a4w step elems elems.toNat 0/\st.s 0=li elems/\st.s 5=li step/\st.s 6=d1e p.2.2/\st.s 7=li p.2.1) (fun p=>p.1) (elems.toNat,0,[]) ⟨by simp,by simpa using he.1,by simp only; omega,by simp,by simp,by simpa using h⟩ ?_
 clear h
 rintro ⟨k,a,l⟩ st K ⟨h0,h1,h2,h3,hm,h⟩ hK
 simp only at h0 h1 h2 h3 hm h
 cases k with
 | zero=>
  have:a=elems:=by omega
  subst this
  rw [a4w,List.append_nil] at hm
  simp (disch:=omega) [go_sem,a3s,h]
  exact hex _ (by simp (disch:=omega) [go_sem,h,hm])
 | succ k=>
  rw [a4w] at hm
  by_cases c:a < elems
  ·rw [if_pos c] at hm
   by_cases c2:step < elems - a
   ·rw [if_pos c2] at hm
    simp (disch:=omega) [go_sem,a3s,h,c,c2]
    exact hK (k,a+step,l++[(a,a+step)]) _ ⟨by simp only; omega,by simp only; omega,by simp only; omega,by simp; omega,by simpa using hm,by simp (disch:=omega) [go_sem,h,a5t,a5f,eT2]⟩ (by simp only; omega)
   ·rw [if_neg c2] at hm
    simp (disch:=omega) [go_sem,a3s,h,c,c2]
    exact hK (k,elems,l++[(a,elems)]) _ ⟨by simp only; omega,by simp only; omega,by simp only; omega,by simp; omega,by simpa using hm,by simp (disch:=omega) [go_sem,h,a5t,a5f,eT2]⟩ (by simp only; omega)
  ·rw [if_neg c,List.append_nil] at hm
   simp (disch:=omega) [go_sem,a3s,h,c]
   exact hex _ (by simp (disch:=omega) [go_sem,h,hm])
theorem b37 (elems unit:Int) (he:elems < 2 ^ 40):ACalls pg G b9w [li elems,li unit] (d1e (a6y elems unit)):=by
 refine b4m rfl ?_
 by_cases c:elems < 1\/unit < 1\/1024 < unit
 ·rw [a6y,if_pos c]
  rcases c with c | c | c
  ·simp (disch:=omega) [go_sem,a3k,c,a3c]
  ·by_cases c1:elems < 1
   ·simp (disch:=omega) [go_sem,a3k,c1,a3c]
   ·simp (disch:=omega) [go_sem,a3k,c,c1,a3c]
  ·by_cases c1:elems < 1
   ·simp (disch:=omega) [go_sem,a3k,c1,a3c]
   ·have c2:¬ unit < 1:=by omega
    simp (disch:=omega) [go_sem,a3k,c,c1,c2,a3c]
 ·rw [a6y,if_neg c]
  have c1:¬ elems < 1:=by omega
  have c2:¬ unit < 1:=by omega
  have c3:¬ 1024 < unit:=by omega
  have hst:=b08 (u:=unit) (by omega) (by omega)
  have hst2:1024 / unit<=1024:=Int.ediv_le_self (a:=1024) unit (by decide)
  simp (disch:=omega) [go_sem,a3k,c1,c2,c3]
  have ht:Int.tdiv 1024 unit=1024 / unit:=Int.tdiv_eq_ediv_of_nonneg (by decide)
  refine d0i (elems:=elems) (step:=1024 / unit) ⟨hst.1,hst2⟩ ⟨by omega,he⟩ (by simp (disch:=omega) [go_sem,a3c,ht]) (fun s h=> ?_)
  simp (disch:=omega) [go_sem,h]
theorem e1b (hS:SentG G bk) {g:Gr} {s:Sn} {sp:List Sp} {view:List Int} {j:Nat} {p:Pl} {x:In} {ts:List (Int×Int)} (hx:x.ins.length < 2 ^ 40) (hx2:x.args.length < 2 ^ 40) (hts:ts.length < 2 ^ 36) (hc:p.code.length<=2048)
  (h:st.s 1= .var [slN g.nodes,li g.out]/\st.s 2=zP/\st.s 3= .lit .nilIface/\st.s 4= .var (eSn s)/\st.s 6=owS sp/\st.s 15=owI view/\st.s 96=slI s.ord/\st.s 97=li s.ord.length/\st.s 98=li j/\st.s 12= .var (gP p)/\st.s 19= .var (eI x)/\st.s 147=d1e ts/\st.s 148=li ts.length/\st.s 149=li 0)
  (hret:b1z x p.code ts=none->∀ s':St,s'.s 2= .var (eP pl0)/\s'.s 3=a0s bk (.s 2)->Q .ret s')
  (hex:∀ code,b1z x p.code ts=some code->code.length<=2048->∀ s':St,(s'.s 1= .var [slN g.nodes,li g.out]/\s'.s 2=zP/\s'.s 3= .lit .nilIface/\s'.s 4= .var (eSn s)/\s'.s 6=owS sp/\s'.s 15=owI view/\s'.s 96=slI s.ord/\s'.s 97=li s.ord.length/\s'.s 98=li j/\s'.s 12= .var (gP { p with code:=code }))->Q (.exit 6) s'):AW pg G 201 (.loop a91) Q st:=by
 have h2:=hS.val 0 (by decide)
 refine a01 (Nat×List In) (fun q st=>q.1<=ts.length/\q.2.length<=2048/\b1z x q.2 (ts.drop q.1)=b1z x p.code ts/\st.s 1= .var [slN g.nodes,li g.out]/\st.s 2=zP/\st.s 3= .lit .nilIface/\st.s 4= .var (eSn s)/\st.s 6=owS sp/\st.s 15=owI view/\st.s 96=slI s.ord/\st.s 97=li s.ord.length/\st.s 98=li j/\st.s 12= .var (gP { p with code:=q.2 })/\st.s 19= .var (eI x)/\st.s 147=d1e ts/\st.s 148=li ts.length/\st.s 149=li q.1) (fun q=>ts.length - q.1) (0,p.code) ⟨by simp,hc,by simp,by simpa using h⟩ ?_
 clear h hc
 rintro ⟨i,code⟩ st K1 ⟨hi,hc,hm,h⟩ hK
 simp only at hi hc hm h
 by_cases c:i < ts.length
 ·have c1:=a7w (G:=G) x.ins hx
  have c2:=a7w (G:=G) x.args hx2
  rw [List.drop_eq_getElem_cons c,b1z] at hm
  simp only [gP,eI] at h
  simp (disch:=omega) [go_sem,a91,h,c]
  refine b2e [(22,st.ep 22+1),(21,st.ep 21+1)] (by simp) (by simp (disch:=omega) [go_sem,h]) ?_
  simp (disch:=omega) [go_sem,h]
  refine a7x (c1.shown (res':=slI x.ins) (by simp (disch:=omega) [go_sem])) rfl (by simp (disch:=omega) [go_sem,h]) (by simp) [156] (by simp) (by simp (disch:=omega) [go_sem,h]) ?_
  simp (disch:=omega) [go_sem,h]
  refine a7x (c2.shown (res':=slI x.args) (by simp (disch:=omega) [go_sem])) rfl (by simp (disch:=omega) [go_sem,h]) (by simp) [159] (by simp) (by simp (disch:=omega) [go_sem,h]) ?_
  simp (disch:=omega) [go_sem,h]
  refine a0c (by decide) fun s2 hs2 hep=> ?_
  simp (disch:=omega) [go_sem,hs2,hep,h]
  by_cases hb:2048 < code.length+1
  ·rw [if_pos hb] at hm
   have hb':(2048:Int) < code.length+1:=by omega
   simp (disch:=omega) [go_sem,hs2,hep,h,hb']
   refine a0b ?_
   simp (disch:=omega) [go_sem,hs2,hep,h,h2]
   refine a0c (by decide) fun s3 hs3 hep3=> ?_
   simp (disch:=omega) [go_sem,hs3,hs2,hep,h]
   exact hret hm.symm _ (by simp (disch:=omega) [go_sem,hs3,hs2,hep,h,a0s,eP,pl0,a3c])
  ·rw [if_neg hb] at hm
   have hb':¬ (2048:Int) < code.length+1:=by omega
   simp (disch:=omega) [go_sem,hs2,hep,h,hb']
   refine hK (i+1,code++[{ x with frm:=ts[i].1,to:=ts[i].2 }]) _ ⟨by simp only; omega,by simp; omega,hm,?_⟩ (by simp only; omega)
   simp (disch:=omega) [go_sem,hs2,hep,h,gP,a5t,a5f,eI]
 ·have:i=ts.length:=by omega
  subst this
  rw [List.drop_length,b1z] at hm
  simp (disch:=omega) [go_sem,a91,h]
  exact hex _ hm.symm hc _ (by simp (disch:=omega) [go_sem,h])
end
end Go.Ideal.Tryd
end
section
namespace Go.Ideal.Tryd
attribute [local go_sem] eD
theorem c3n {cs:List Tn} {n:Nd} {view:List Int} (hn:n.sh):(a6k cs n view).1.ins.length < 2 ^ 40/\(a6k cs n view).1.args.length < 2 ^ 40/\(a6k cs n view).2.length<=cs.length+1:=by
 have h1:=hn.ins
 have h2:=hn.args
 unfold a6k
 split
 ·simp; omega
 ·split
  ·simp
  ·split
   ·simp; omega
   ·simp; omega
theorem b5o {e u:Int} (h:e<=2 ^ 20):(a6y e u).length < 2 ^ 36:=by
 unfold a6y
 split
 ·simp
 ·have:=b38 (step:=1024 / u) (elems:=e) (k:=e.toNat) (a:=0)
  omega
@[go_sem] theorem g1x {xs:List Sp} {i:Nat} (h:i < xs.length):(fm eS xs)[i*4+2]? =some (li xs[i].off):=b15 (f:=eS) (k:=4) (j:=2) (fun _=>rfl) h (by omega)
theorem c46 {P:Program} {G:GG} {N:Nat} {st1 st2:St} {K:St->Prop} {d:Option Nat} {f:FuncId} {pre:List AV} {L:List (Nat×Nat)} {res:AV} {posts:List (Nat×AV)} (hA:ACallsX P G f pre res posts) (hn:noRef res=true) (hp:posts.map (·.1)=L.map (·.2)) (hv:a9m pre posts) (h12:a9u N st1 st2)
  (h:K (c3l st1 N ((L.map (·.1)).zip (posts.map (·.2))) d res)):clx P G N d f pre L st1 st2 K:=c8j hA hn hp hv h (by rw [b41 h12]; exact h)
section
variable {G:GG} {bk:Nat->Nat×Nat} {Q:Exit->St->Prop} {st:St}
theorem e1c (hS:SentG G bk) {g:Gr} {s:Sn} {sp:List Sp} {p0:Pl} (hn:∀ n∈g.nodes,n.sh) (hins:∀ n∈g.nodes,∀ k∈n.ins,0<=k/\k < (g.nodes.length:Int)) (hwt:∀ n∈g.nodes,n.op=3->0 < n.args.length) (hl:g.nodes.length<=64)
  (hdl:s.descs.length=g.nodes.length) (hds:∀ d∈s.descs,d.shape.length < 2 ^ 40) (hord:∀ x∈s.ord,0<=x/\x < (g.nodes.length:Int)) (hol:s.ord.length<=64) (hsp:g.nodes.length<=sp.length) (hv0:p0.views.length=1) (hc0:p0.consts=[]) (hcode0:p0.code=[])
  (h:st.s 1= .var [slN g.nodes,li g.out]/\st.s 2=zP/\st.s 3= .lit .nilIface/\st.s 4= .var (eSn s)/\st.s 6=owS sp/\st.s 96=slI s.ord/\st.s 97=li s.ord.length/\st.s 12= .var (gP p0)/\st.s 15=owI (List.replicate g.nodes.length 0)/\st.s 98=li 0)
  (hret:b6d g s sp p0 (List.replicate g.nodes.length 0) s.ord=none->∀ s':St,s'.s 2= .var (eP pl0)/\s'.s 3=a0s bk (.s 2)->Q .ret s')
  (hex:∀ p view,b6d g s sp p0 (List.replicate g.nodes.length 0) s.ord=some (p,view)->view.length=g.nodes.length->p.code.length<=2048->∀ s':St,s'.s 1= .var [slN g.nodes,li g.out]/\s'.s 2=zP/\s'.s 3= .lit .nilIface/\s'.s 12= .var (gP p)/\s'.s 15=owI view->Q (.exit 4) s'):AW pg G 201 (.loop a72) Q st:=by
 refine a01 (Nat×Pl×List Int) (fun q st=>q.1<=s.ord.length/\q.2.1.views.length<=1+q.1/\q.2.1.consts.length<=q.1/\q.2.1.code.length<=2048/\q.2.2.length=g.nodes.length/\b6d g s sp q.2.1 q.2.2 (s.ord.drop q.1)=b6d g s sp p0 (List.replicate g.nodes.length 0) s.ord/\st.s 1= .var [slN g.nodes,li g.out]/\st.s 2=zP/\st.s 3= .lit .nilIface/\st.s 4= .var (eSn s)/\st.s 6=owS sp/\st.s 96=slI s.ord/\st.s 97=li s.ord.length/\st.s 12= .var (gP q.2.1)/\st.s 15=owI q.2.2/\st.s 98=li q.1) (fun q=>s.ord.length - q.1) (0,p0,List.replicate g.nodes.length 0) ⟨by simp,by simp [hv0],by simp [hc0],by simp [hcode0],by simp,by simp,by simpa using h⟩ ?_
 clear h hv0 hc0 hcode0
 rintro ⟨j,p,view⟩ st K1 ⟨hj,hvl,hcl,hcd,hvw,hm,h⟩ hK
 simp only at hj hvl hcl hcd hvw hm h
 by_cases c:j < s.ord.length
 ·have hx:=hord _ (List.getElem_mem c)
  obtain ⟨i,hi⟩:∃ i:Nat,s.ord[j]=i:=⟨s.ord[j].toNat,by omega⟩
  rw [hi] at hx
  have c1:i < g.nodes.length:=by omega
  have c2:i < sp.length:=by omega
  have c3:i < s.descs.length:=by omega
  have c4:i < view.length:=by omega
  have hmem:=List.getElem_mem c1
  rw [List.drop_eq_getElem_cons c,b6d,hi,Int.toNat_natCast,b22 c1,b22 c2,b22 c3] at hm
  by_cases hop:g.nodes[i].op=1
  ·rw [if_pos hop] at hm
   simp (disch:=omega) [go_sem,a72,h,c,hi,c1,hop]
   exact hK (j+1,p,view) _ ⟨by simp only; omega,by simp only; omega,by simp only; omega,hcd,hvw,hm,by simp (disch:=omega) [go_sem,h]⟩ (by simp only; omega)
  ·rw [if_neg hop] at hm
   have hdi:=hds _ (List.getElem_mem c3)
   have k1:=a15 (G:=G) s.descs[i].shape s.descs[i].wide (by omega)
   have k2:=d26 (G:=G) { p with views:=p.views++[⟨sp[i].off,s.descs[i].shape,s.descs[i].wide⟩] } g.nodes[i] (view.set i p.views.length) (hn _ hmem) (fun k hk=>by rw [List.length_set,hvw]; exact hins _ hmem k hk) (hwt _ hmem) (by simp only; omega)
   have hil:=c3n (cs:=p.consts) (view:=view.set i p.views.length) (hn _ hmem)
   simp only at k2
   generalize hig:a6k p.consts g.nodes[i] (view.set i p.views.length)=ig at *
   obtain ⟨x,cs⟩:=ig
   simp only at hm k2 hil
   have k3:=c6r (G:=G) hS.o g s i c1 c3 (hn _ hmem) (fun k hk=>by rw [hdl]; exact hins _ hmem k hk) hds
   have hpe:(a7l g s i).1<=16384/\0<=(a7l g s i).1:=by
    have:=a6h s.descs[((i:Int)).toNat]!.shape
    simp only [a7l]
    omega
   generalize a7l g s (i:Int)=pr at *
   obtain ⟨el,un⟩:=pr
   simp only at hm k3 hpe
   have k4:=b37 (G:=G) el un (by omega)
   have htl:=b5o (e:=el) (u:=un) (by omega)
   generalize a6y el un=ts at *
   simp only [gP,eSn] at h
   simp only [eSn] at k3
   simp only [gP,a4m,eI] at k2
   simp only [owV,owI,a5t,a5f,oV,List.length_append,List.length_singleton,List.length_set,List.map_set] at k2
   simp (disch:=omega) [go_sem,a72,h,c,hi,c1,c2,c3,c4,hop]
   refine b2e [(12,st.ep 12)] (by simp) (by simp (disch:=omega) [go_sem,h]) ?_
   simp (disch:=omega) [go_sem,h,hi,c1,c2,c3]
   refine a0w k1 rfl (by simp [a0x,a0y,a1h]) (by simp) [128,127] (by simp) (by simp (disch:=omega) [go_sem,h,hi,c1,c2,c3]) ?_
   simp (disch:=omega) [go_sem,h,hi,c1,c2,c3]
   refine a0c (by decide) fun s2 hs2 hep=> ?_
   simp (disch:=omega) [go_sem,hs2,hep,h,hi,c1,c2,c3,c4]
   refine c46 k2 rfl rfl (c27 rfl (c26 rfl c25)) (by simp (disch:=omega) [go_sem,hs2,hep,h,hi,c1,c2,c3,c4]) ?_
   have c5:((List.map li view).set i (li (p.views.length:Int)))[i]? =some (li (p.views.length:Int)):=List.getElem?_set_self (by simpa using c4)
   simp (disch:=omega) [go_sem,hs2,hep,h,hi,c1,c2,c3,c4,c5]
   refine a0i k3 rfl rfl ?_
   simp (disch:=omega) [go_sem,hs2,hep,h,hi,c1,c2,c3,c4,c5]
   refine a0i k4 rfl (by simp (disch:=omega) [go_sem]) ?_
   simp (disch:=omega) [go_sem,hs2,hep,h,hi,c1,c2,c3,c4,c5]
   refine e1b hS (g:=g) (s:=s) (sp:=sp) (view:=view.set i p.views.length) (j:=j) (p:={ p with views:=p.views++[⟨sp[i].off,s.descs[i].shape,s.descs[i].wide⟩],consts:=cs }) (x:={ x with dst:=p.views.length }) (ts:=ts) hil.1 hil.2.1 htl hcd (by simp (disch:=omega) [go_sem,hs2,hep,h,hi,c1,c2,c3,c4,c5,gP,eI,eSn,a5t,a5f,oV]) (fun hm2 s3 h3=> ?_) (fun code hm2 hc2 s3 h3=> ?_)
   ·simp only at hm2
    rw [hm2] at hm
    exact hret hm.symm _ h3
   ·simp only at hm2
    rw [hm2] at hm
    simp only [gP,eSn] at h3
    simp (disch:=omega) [go_sem,h3]
    exact hK (j+1,_,_) _ ⟨by simp only; omega,by simp; omega,by simp only; omega,hc2,by simpa using hvw,hm,by simp (disch:=omega) [go_sem,h3,gP,eSn]⟩ (by simp only; omega)
 ·have:j=s.ord.length:=by omega
  subst this
  rw [List.drop_length,b6d] at hm
  simp (disch:=omega) [go_sem,a72,h]
  exact hex p view hm.symm hvw hcd _ (by simp (disch:=omega) [go_sem,h])
end
theorem b6b {a b:List AV}:a1l (a++b)=a1l a++a1l b:=by simp [b6c]
section
variable {G:GG} {bk:Nat->Nat×Nat} {Q:Exit->St->Prop} {st:St}
theorem f2t (hS:SentG G bk) (hA:Around G bk) (g:Gr) (hf:∀ n∈g.nodes,n.sh) (hn:g.nodes.length < 2 ^ 36) (htot:tot (g.nodes.map (·.ins)) < 2 ^ 40)
  (hwt:(ofR g).2.isNil=true->∀ n∈g.nodes,n.op=3->0 < n.args.length) (hws:(ofR g).2.isNil=true->∀ d∈(ofR g).1.ws,d.shape.length < 2 ^ 40) (hsp:(a92 g).2.isNil=true->g.nodes.length<=(a92 g).1.1.length/\(a92 g).1.1.length < 2 ^ 40) :
  ACalls pg G c1v [d6g g] (.tup [.agg (eP (d6d g).1),a0s bk (d6d g).2]):=by
 have h0:=hS.val 0 (by decide)
 have c2:=f35 hS.o hA g hf hn htot (fun hnil=>by
  obtain ⟨a1,a2,a3,a4,a5,a6,a7,a8,a9⟩:=d1a hf hnil
  exact ⟨a1,a4,by omega,a6,fun d hd=>by have:=a7 d hd; omega⟩)
 have hok:=d1a (g:=g) hf
 refine c0v rfl ?_
 simp (disch:=omega) [go_sem,c2f]
 refine a0k (g0i hS.o hA g hf hn htot) (by simp [go_sem,eSn,noRef]) (by simp (disch:=omega) [go_sem]) ?_
 rw [d6d]
 generalize hr:ofR g=r at *
 obtain ⟨s,e⟩:=r
 simp only at hok hwt hws ⊢
 cases he:e.isNil with
 | false=>simp (disch:=omega) [go_sem,he,eP,pl0,a3c,eSn]
 | true=>
  obtain rfl:e= .nil:=a73.1 he
  obtain ⟨hl,hout,hso,hord,hol,hdl,hds,hhin,hwl⟩:=hok he
  have hws:=hws he
  have hwt:=hwt he
  have hins:∀ n∈g.nodes,∀ k∈n.ins,0<=k/\k < (g.nodes.length:Int):=by
   have:=a7c (ins:=g.nodes.map (·.ins)) (fun r hr=>by
    obtain ⟨n,hn2,rfl⟩:=List.mem_map.1 hr
    have:=(hf n hn2).ins
    omega) hso
   simp only [List.length_map] at this
   exact fun n hn k hk=>this.2.2.2.2 n.ins (List.mem_map.2 ⟨n,hn,rfl⟩) k hk
  simp (disch:=omega) [go_sem,he,eSn]
  refine a0k c2 (by simp [go_sem,noRef]) (by simp (disch:=omega) [go_sem]) ?_
  generalize hlr:a92 g=l at *
  obtain ⟨⟨sp,size⟩,e2⟩:=l
  simp only at hsp ⊢
  cases he2:e2.isNil with
  | false=>simp (disch:=omega) [go_sem,he,he2,eP,pl0,a3c,eSn]
  | true=>
   obtain rfl:e2= .nil:=a73.1 he2
   obtain ⟨hsl,hsl2⟩:=hsp he2
   have hpos:0 < sp.length:=by omega
   rw [e08]
   simp (disch:=omega) [go_sem,he,he2]
   refine e09 hS (g:=g) (s:=s) (sp:=sp) (size:=size) hf hins hl hdl hds hord (by omega) (by simp (disch:=omega) [go_sem,eSn]) (fun i hd s1 h=> ?_) (fun hd s1 h=> ?_)
   ·simp only [eP,pl0] at h
    simp (disch:=omega) [go_sem,h,hd,eP,pl0]
   ·have k1:=d25 (G:=G) g sp (by omega) hsl hsl2 hpos
    have k2:=a15 (G:=G) s.hin.shape s.hin.wide (by omega)
    simp only [eS,eSn] at k1 h
    rw [hd]
    simp only
    generalize b4o sp g.nodes 0=inp at *
    simp (disch:=omega) [go_sem,h]
    refine a0b ?_
    simp (disch:=omega) [go_sem,h]
    refine a0w k1 rfl (by simp (disch:=omega) [go_sem]) (by simp) [68] (by simp) (by simp (disch:=omega) [go_sem,h]) ?_
    simp (disch:=omega) [go_sem,h]
    refine a0w k2 rfl (by simp [a0x,a0y,a1h]) (by simp) [72,71] (by simp) (by simp (disch:=omega) [go_sem,h]) ?_
    simp (disch:=omega) [go_sem,h]
    refine a0c (by decide) fun s2 hs2 hep=> ?_
    simp (disch:=omega) [go_sem,hs2,hep,h]
    refine e1a (g:=g) (s:=s) (sp:=sp) (size:=size) (p:=⟨size,[⟨inp.off,s.hin.shape,s.hin.wide⟩],[],[],[],0,0⟩) (by omega) hws rfl (by simp (disch:=omega) [go_sem,hs2,hep,h,gP,eSn,a3c,a5f,oV]) (fun s3 h3=> ?_)
    simp only [gP,eSn] at h3
    simp (disch:=omega) [go_sem,h3]
    refine e1c hS (g:=g) (s:=s) (sp:=sp) (p0:=⟨size,[⟨inp.off,s.hin.shape,s.hin.wide⟩],[],s.ws,[],0,0⟩) hf hins hwt hl hdl hds hord (by omega) hsl rfl rfl rfl (by simp (disch:=omega) [go_sem,h3,gP,eSn]) (fun hm s4 h4=> ?_) (fun p view hm hvl hcl s4 h4=> ?_)
    ·rw [hm,c5y]
     simp only [eP,pl0] at h4
     simp (disch:=omega) [go_sem,h4,eP,pl0]
    ·rw [hm,c5y]
     obtain ⟨o,ho⟩:∃ o:Nat,g.out=o:=⟨g.out.toNat,by omega⟩
     rw [ho] at hout
     have ho2:o < view.length:=by omega
     simp only [gP] at h4
     rw [ho] at h4
     by_cases hb:2048 < p.code.length+1
     ·have hb':(2048:Int) < p.code.length+1:=by omega
      simp only [if_pos hb]
      simp (disch:=omega) [go_sem,h4,hb']
      refine a0b ?_
      simp (disch:=omega) [go_sem,h4,h0]
      refine a0c (by decide) fun s5 hs5 hep5=> ?_
      simp (disch:=omega) [go_sem,hs5,hep5,h4,eP,pl0,a0s,a3c]
     ·have hb':¬ (2048:Int) < p.code.length+1:=by omega
      simp only [if_neg hb,ho,Int.toNat_natCast,b22 ho2]
      simp (disch:=omega) [go_sem,h4,hb',ho2,eP,a0s,a5t,a5f,d22,eI,b6b]
end
end Go.Ideal.Tryd
end
section
namespace Go.Ideal.Tryd
theorem b7s {step:Int}:∀ {l:List (Int×Int)} {a e:Int},b4v step a e l->a<=e
 | [],a,e,h=>by
  have:a=e:=h
  omega
 | (x,y)::r,a,e,h=>by
  obtain ⟨h1,h2,_,_,h5⟩:=h
  have:=b7s h5
  omega
@[go_sem] theorem g1y {xs:List (Int×Int)} {i:Nat} (h:i < xs.length):(fm eT2 xs)[i*2]? =some (li xs[i].1):=b15 (f:=eT2) (k:=2) (j:=0) (fun _=>rfl) h (by omega)
@[go_sem] theorem g1z {xs:List (Int×Int)} {i:Nat} (h:i < xs.length):(fm eT2 xs)[i*2+1]? =some (li xs[i].2):=b15 (f:=eT2) (k:=2) (j:=1) (fun _=>rfl) h (by omega)
def c38:Gr:=⟨[inN [0,2]],0⟩
theorem d3r:((d6d c38).2.isNil&&decide ((d6d c38).1.code=[d22]))=true:=by kernel_rfl
section
variable {G:GG} {bk:Nat->Nat×Nat} {Q:Exit->St->Prop} {st:St}
@[go_sem] theorem f1i {xs:List In} {i:Nat} (h:i < xs.length):(fm eI xs)[i*6]? =some (li xs[i].op):=b15 (f:=eI) (k:=6) (j:=0) (fun _=>rfl) h (by omega)
theorem d2r (hS:SentG G bk) (hA:Around G bk):ACalls pg G a9g [] (lb true):=by
 have h:=d3r
 simp only [Bool.and_eq_true,decide_eq_true_eq] at h
 have hw:(ofR c38).1.ws=[]:=by
  have:(ofR c38).1.ws.isEmpty=true:=by kernel_rfl
  exact List.isEmpty_iff.1 this
 have hs:(a92 c38).1.1.length=1:=by
  have:decide ((a92 c38).1.1.length=1)=true:=by kernel_rfl
  exact of_decide_eq_true this
 have spec:=f2t hS hA c38 (fun n hn=>by
  simp only [c38,List.mem_singleton] at hn
  subst hn
  exact ⟨by simp [inN],by simp [inN],by simp [inN],by simp [inN]⟩) (by simp [c38]) (by simp [c38,inN,tot]) (fun _ n hn ho=>by
  simp only [c38,List.mem_singleton] at hn
  subst hn
  simp [inN] at ho) (fun _ d hd=>by rw [hw] at hd; cases hd) (fun _=>by rw [hs]; simp [c38])
 obtain ⟨h1,h2⟩:=h
 generalize d6d c38=r at *
 obtain ⟨p,e⟩:=r
 simp only at h1 h2 spec
 obtain rfl:e= .nil:=a73.1 h1
 have spec2:ACalls pg G c1v [.agg [.sl 1 [li 1,.sl 0 [],.sl 2 [li 0,li 2],.sl 0 [],lb false,.sl 0 []],li 0]] (.tup [.agg (eP p),.lit .nilIface]):=spec
 have hl:0 < p.code.length:=by rw [h2]; simp
 have e1:p.code[0].op=24:=by simp only [h2]; rfl
 have e2:(p.code.length:Int)=1:=by rw [h2]; rfl
 have e3:=f1i (xs:=p.code) (i:=0) hl
 rw [Nat.zero_mul,e1] at e3
 simp only [eP] at spec2
 refine a76 rfl ?_
 simp (disch:=omega) [go_sem,a5w]
 refine a82 spec2 (by simp [go_sem,noRef]) ?_ ?_<;>simp (disch:=omega) [go_sem,e2,hl,e3]
theorem f29 {el un:Int} {ts:List (Int×Int)} (hu:1<=un/\un<=1024) (he:1<=el/\el<=16384) (hts:ts.length < 2 ^ 36) (hch:b4v (1024 / un) 0 el ts)
  (h:st.s 0=li el/\st.s 1=li un/\st.s 4=lb false/\st.s 5=lb true/\st.s 6=d1e ts/\st.s 7=li 0/\st.s 8=li 0)
  (hex:∀ s:St,s.s 0=li el/\s.s 1=li un/\s.s 4=lb false/\s.s 5=lb true/\s.s 7=li el->Q (.exit 0) s):AW pg G 96 (.loop a11) Q st:=by
 refine a01 (Nat×Int) (fun p st=>p.1<=ts.length/\0<=p.2/\b4v (1024 / un) p.2 el (ts.drop p.1)/\st.s 0=li el/\st.s 1=li un/\st.s 4=lb false/\st.s 5=lb true/\st.s 6=d1e ts/\st.s 7=li p.2/\st.s 8=li p.1) (fun p=>ts.length - p.1) (0,0) ⟨by simp,by simp,by simpa using hch,by simpa using h⟩ ?_
 clear h hch
 rintro ⟨i,a⟩ st K ⟨hi,ha,hch,h⟩ hK
 simp only at hi ha hch h
 have hst:=b08 hu.1 hu.2
 by_cases c:i < ts.length
 ·obtain ⟨⟨x,y⟩,hxy⟩:∃ q:Int×Int,ts[i]=q:=⟨_,rfl⟩
  have hx:ts[i].1=x:=by rw [hxy]
  have hy:ts[i].2=y:=by rw [hxy]
  rw [List.drop_eq_getElem_cons c,hxy] at hch
  obtain ⟨h1,h2,h3,h4,h5⟩:=hch
  have hle:=b7s h5
  have p1:(y - x)*un<=1024:=Int.le_trans (Int.mul_le_mul_of_nonneg_right h3 (by omega)) hst.2.1
  have p0:0<=(y - x)*un:=Int.mul_nonneg (by omega) (by omega)
  have p2:i+1 < ts.length->1024 < (y - x+1)*un:=fun hlt=>by
   rw [h4 (by intro hn; have:=congrArg List.length hn; simp at this; omega)]
   exact hst.2.2
  have p3:(y - x+1)*un<=2048:=by rw [Int.add_mul]; omega
  have p4:0<=(y - x+1)*un:=Int.mul_nonneg (by omega) (by omega)
  generalize hq:(y - x)*un=q at *
  generalize hq2:(y - x+1)*un=q2 at *
  have c':(i:Int) < ts.length:=by omega
  subst h1
  have n1:¬ y - x < 1:=by omega
  have n2:¬ 1024 < q:=by omega
  simp (disch:=omega) [go_sem,a11,h,c,c',hx,hy]
  refine a0b ?_
  simp (disch:=omega) [go_sem,h,c,c',hx,hy]
  refine a0c (by decide) fun s2 hs2 hep=> ?_
  by_cases c3:i+1 < ts.length
  ·have c3':(i:Int)+1 < ts.length:=by omega
   have n3:=p2 c3
   have n4:¬ q2<=1024:=by omega
   simp (disch:=omega) [go_sem,hs2,hep,h,c,c',hx,hy,hq,hq2,n1,n2,c3',n4]
   exact hK (i+1,y) _ ⟨by simp only; omega,by simp only; omega,h5,by simp (disch:=omega) [go_sem,hs2,hep,h,c,c',hx,hy]⟩ (by simp only; omega)
  ·have c3':¬ (i:Int)+1 < ts.length:=by omega
   simp (disch:=omega) [go_sem,hs2,hep,h,c,c',hx,hy,hq,hq2,n1,n2,c3']
   exact hK (i+1,y) _ ⟨by simp only; omega,by simp only; omega,h5,by simp (disch:=omega) [go_sem,hs2,hep,h,c,c',hx,hy]⟩ (by simp only; omega)
 ·have:i=ts.length:=by omega
  subst this
  rw [List.drop_length] at hch
  have e1:a=el:=hch
  subst e1
  simp (disch:=omega) [go_sem,a11,h]
  exact hex _ (by simp (disch:=omega) [go_sem,h])
theorem b8h (hS:SentG G bk) (hA:Around G bk) (e u:Int):ACalls pg G a7q [li e,li u] (lb true):=by
 have r1:=c2m (n:=e) (m:=16384) (by decide)
 have r2:=c2m (n:=u) (m:=1024) (by decide)
 have k1:=c2n (G:=G) e 16384 (by decide) (by decide)
 have k2:=c2n (G:=G) u 1024 (by decide) (by decide)
 generalize d3p e 16384=a at *
 generalize d3p u 1024=b at *
 have k3:=b37 (G:=G) (a+1) (b+1) (by omega)
 have hl:=b5o (e:=a+1) (u:=b+1) (by omega)
 have hch:=b9k (e:=a+1) (u:=b+1) (by omega) (by omega) (by omega)
 generalize a6y (a+1) (b+1)=ts at *
 have t0:=b37 (G:=G) 0 1 (by omega)
 have t1:=b37 (G:=G) 5 1025 (by omega)
 have t2:=b37 (G:=G) 5 0 (by omega)
 rw [show a6y 0 1=[] from rfl] at t0
 rw [show a6y 5 1025=[] from rfl] at t1
 rw [show a6y 5 0=[] from rfl] at t2
 refine a6o rfl ?_
 simp (disch:=omega) [go_sem,a4o]
 refine a0i (d2r hS hA) rfl rfl ?_
 simp (disch:=omega) [go_sem]
 refine a0i k1 rfl rfl ?_
 simp (disch:=omega) [go_sem]
 refine a0i k2 rfl rfl ?_
 simp (disch:=omega) [go_sem]
 refine a0i k3 rfl (by simp (disch:=omega) [go_sem]) ?_
 simp (disch:=omega) [go_sem]
 refine f29 (el:=a+1) (un:=b+1) (ts:=ts) (by omega) (by omega) hl hch (by simp (disch:=omega) [go_sem]) (fun s h=> ?_)
 simp (disch:=omega) [go_sem,h]
 refine a0i t0 rfl (by simp (disch:=omega) [go_sem]) ?_
 simp (disch:=omega) [go_sem,h]
 refine a0i t1 rfl (by simp (disch:=omega) [go_sem]) ?_
 simp (disch:=omega) [go_sem,h]
 refine a0i t2 rfl (by simp (disch:=omega) [go_sem]) ?_
 simp (disch:=omega) [go_sem,h]
end
end Go.Ideal.Tryd
end
