/- Part Qas of the proof: walks on a machine that is proved sound. -/
import Derived.Test.YtfncabcldhemkaaGreatDoorQar
import Derived.Test.YtfncabcldhemkaaGreatDoorQah
import Derived.Test.YtfncabcldhemkaaGreatDoorQak
import Derived.Test.YtfncabcldhemkaaGreatDoorQaq
import Derived.Test.YtfncabcldhemkaaGreatDoorQai
set_option linter.unusedVariables false
set_option linter.unusedSimpArgs false
set_option maxHeartbeats 16000000
set_option maxRecDepth 100000
section
namespace Go.Ideal.Tryz
section
variable {G:GG} {bk:Nat->Nat×Nat} {Q:Exit->St->Prop} {st:St}
theorem d3j {l:List Sp} {s:Sp} {os:List Int} {most:Int} {i:Nat} (hi:i<=l.length) (hl:l.length < 2 ^ 40) (hos:i<=os.length) (hol:os.length < 2 ^ 40) (hx:∀ x∈l,x.len < 2 ^ 63) (ho:∀ o∈os,0<=o/\o < 2 ^ 63) (hs:s.len < 2 ^ 63/\1<=s.len)
  (h:st.s 0=slS l/\st.s 4=owI os/\st.s 5=li most/\st.s 6=li i/\st.s 7= .var (eS s)/\st.s 8=li 0/\st.s 15=slS l/\st.s 16=li l.length/\st.s 17=li i)
  (hex:∀ s':St,s'.s 0=slS l/\s'.s 4=owI os/\s'.s 5=li most/\s'.s 6=li i/\s'.s 7= .var (eS s)/\s'.s 8=li (a4l s (l.take i) os b6g 0)/\s'.s 15=slS l/\s'.s 16=li l.length/\s'.s 17=li i->Q (.exit 2) s'):AW pg G 107 (.loop a9d) Q st:=by
 have hds:(l.take i).length=i:=by simp; omega
 have hdx:∀ x∈l.take i,x.len < 2 ^ 63:=fun x hx2=>hx x (List.mem_of_mem_take hx2)
 have htk:=d11 hi
 generalize l.take i=ds at *
 refine a0u (Nat×Int) (fun p st=>(0<=p.2/\p.2 < 2 ^ 63)/\2 ^ 63 - p.2<=p.1/\a4l s ds os p.1 p.2=a4l s ds os b6g 0/\st.s 0=slS l/\st.s 4=owI os/\st.s 5=li most/\st.s 6=li i/\st.s 7= .var (eS s)/\st.s 8=li p.2/\st.s 15=slS l/\st.s 16=li l.length/\st.s 17=li i) (fun p=>p.1) (b6g,0) ⟨by omega,by simp [b6g],rfl,by simpa using h⟩ ?_
 clear h
 rintro ⟨n,off⟩ st K ⟨hoff,hn,hm,h⟩ hK
 simp only at hoff hn hm h
 obtain ⟨n,rfl⟩:∃ m,n=m+1:=⟨n - 1,by omega⟩
 rw [a4l] at hm
 simp (disch:=omega) [go_sem,a9d,h,hi,htk]
 refine d3i (ds:=ds) (s:=s) (os:=os) (off:=off) (most:=most) hds hl (by omega) hol hdx ho hs hoff (by simp (disch:=omega) [go_sem,h,hi,htk]) (fun o e s' h'=> ?_) (fun e s' h'=> ?_)
 ·rw [e] at hm
  have:=b7g hdx ho e
  simp (disch:=omega) [go_sem,h']
  exact hK (n,o) _ ⟨this.2,by simp only; omega,hm,by simp (disch:=omega) [go_sem,h']⟩ (by simp only; omega)
 ·rw [e] at hm
  simp only at hm
  simp (disch:=omega) [go_sem,h']
  exact hex _ (by simp (disch:=omega) [go_sem,h',<-hm])
theorem d33 {os:List Int} {k:Nat} {x:Int}:(os++List.replicate (k+1) (0:Int)).set os.length x=(os++[x])++List.replicate k 0:=by
 rw [List.set_append_right _ _ (Nat.le_refl _),Nat.sub_self,List.replicate_succ,List.set_cons_zero,List.append_assoc]; rfl
theorem d3k {l:List Sp} (hl:l.length < 2 ^ 40) (hx:∀ x∈l,x.len < 2 ^ 63)
  (h:st.s 0=slS l/\st.s 4=owI (List.replicate l.length 0)/\st.s 5=li 0/\st.s 15=slS l/\st.s 16=li l.length/\st.s 17=li 0)
  (hex:∀ s':St,s'.s 4=owI (a5k l).1/\s'.s 5=li (a5k l).2->Q (.exit 0) s'):AW pg G 107 (.loop a5a) Q st:=by
 refine a0u (Nat×List Int×List Int×Int) (fun p st=>p.1<=l.length/\p.2.1.length=p.1/\p.2.2.1=p.2.1++List.replicate (l.length - p.1) 0/\(∀ o∈p.2.1,0<=o/\o < 2 ^ 63)/\d0c b6g (l.take p.1) p.2.1 p.2.2.2 (l.drop p.1)=a5k l/\st.s 0=slS l/\st.s 4=owI p.2.2.1/\st.s 5=li p.2.2.2/\st.s 15=slS l/\st.s 16=li l.length/\st.s 17=li p.1) (fun p=>l.length - p.1) (0,[],List.replicate l.length 0,0) ⟨by simp,rfl,by simp,by simp,by simp [a5k],by simpa using h⟩ ?_
 clear h
 rintro ⟨i,os,offs,most⟩ st K ⟨hi,hol,hof,ho,hm,h⟩ hK
 simp only at hi hol hof ho hm h
 have hlo:offs.length=l.length:=by rw [hof]; simp; omega
 have hoo:∀ o∈offs,0<=o/\o < 2 ^ 63:=by
  intro o ho2
  rw [hof] at ho2
  rcases List.mem_append.1 ho2 with h2 | h2
  ·exact ho o h2
  ·rw [List.eq_of_mem_replicate h2]; omega
 by_cases c:i < l.length
 ·have hx1:=hx _ (List.getElem_mem c)
  rw [List.drop_eq_getElem_cons c,d0c,<-List.take_succ_eq_append_getElem c] at hm
  have hds:os.length=(l.take i).length:=by simp; omega
  have hlk:a4l l[i] (l.take i) offs b6g 0=a4l l[i] (l.take i) os b6g 0:=by rw [hof]; exact c20 hds
  have hrg:=c21 (s:=l[i]) (xs:=l.take i) (os:=os) (n:=b6g) (off:=0) (fun x hx2=>hx x (List.mem_of_mem_take hx2)) ho (by omega)
  have hset:∀ x,offs.set i x=(os++[x])++List.replicate (l.length - (i+1)) 0:=by
   intro x
   rw [hof,show l.length - i=(l.length - (i+1))+1 by omega,<-hol]
   exact d33
  generalize hsv:l[i]=s at *
  by_cases c1:s.len < 1
  ·rw [if_pos c1] at hm
   have hn:¬ (1:Int)<=s.len:=by omega
   simp (disch:=omega) [go_sem,a5a,h,c,hsv,c1]
   refine hK (i+1,os++[0],offs,most) _ ⟨by simp only; omega,by simp [hol],?_,?_,hm,by simp (disch:=omega) [go_sem,h]⟩ (by simp only; omega)
   ·simp only
    rw [hof,show l.length - i=(l.length - (i+1))+1 by omega,List.replicate_succ]; simp
   ·intro o ho2
    rcases List.mem_append.1 ho2 with h2 | h2
    ·exact ho o h2
    ·simp at h2; omega
  ·rw [if_neg c1] at hm
   simp (disch:=omega) [go_sem,a5a,h,c,hsv,c1]
   refine d3j (l:=l) (s:=s) (os:=offs) (most:=most) (i:=i) (by omega) hl (by omega) (by omega) hx hoo ⟨hx1,by omega⟩ (by simp (disch:=omega) [go_sem,h,eS]) (fun s' h'=> ?_)
   rw [hlk] at h'
   generalize hlv:a4l s (l.take i) os b6g 0=off at *
   have spec:=d51 (G:=G) off s.len hrg ⟨by omega,hx1⟩
   have c2:i < offs.length:=by omega
   simp (disch:=omega) [go_sem,h',eS,c,c2]
   refine a0c spec rfl rfl ?_
   simp (disch:=omega) [go_sem,h',eS,c,c2]
   refine hK (i+1,os++[off],offs.set i off,max most (b8s off s.len)) _ ⟨by simp only; omega,by simp [hol],hset off,?_,hm,by simp (disch:=omega) [go_sem,h',eS,b0q]⟩ (by simp only; omega)
   intro o ho2
   rcases List.mem_append.1 ho2 with h2 | h2
   ·exact ho o h2
   ·simp at h2; omega
 ·have:i=l.length:=by omega
  subst this
  rw [List.drop_length,d0c] at hm
  simp only [Nat.sub_self,List.replicate_zero,List.append_nil] at hof
  subst hof
  simp (disch:=omega) [go_sem,a5a,h]
  exact hex _ (by simp (disch:=omega) [go_sem,h,<-hm])
theorem d60 (l:List Sp) (hl:l.length < 2 ^ 40) (hx:∀ x∈l,x.len < 2 ^ 63):ACalls pg G c1f [slS l] (.tup [owI (a5k l).1,li (a5k l).2]):=by
 refine b7b rfl ?_
 simp (disch:=omega) [go_sem,b5j]
 refine d3k (l:=l) hl hx (by simp (disch:=omega) [go_sem]) (fun s' h'=> ?_)
 simp (disch:=omega) [go_sem,h']
end
end Go.Ideal.Tryz
end
section
namespace Go.Ideal.Tryz
attribute [local go_sem] eD
theorem b16 {xs:List Sp} {i:Nat} {a b o l:Int} (h:i < xs.length):a0f (fm eS xs) (i*4) [li a,li b,li o,li l]=fm eS (xs.set i ⟨a,b,o,l⟩):=b66 (f:=eS) (c:=4) (fun _=>rfl) ⟨a,b,o,l⟩ h
theorem d00 {α:Type} {os:List α} {k:Nat} {x z:α}:(os++List.replicate (k+1) z).set os.length x=(os++[x])++List.replicate k z:=by
 rw [List.set_append_right _ _ (Nat.le_refl _),Nat.sub_self,List.replicate_succ,List.set_cons_zero,List.append_assoc]; rfl
def sp0:Sp:=⟨0,0,0,0⟩
theorem c5e {n:Nat}:a6s n [li 0,li 0,li 0,li 0]=fm eS (List.replicate n sp0):=by
 induction n with
 | zero=>rfl
 | succ n ih=>rw [List.replicate_succ,a7a,<-ih]; simp [a6s,List.replicate_succ,eS,sp0]
def c75:Nat->List Int->List Int->List Int
 | _,a,[]=>a
 | k,a,i::is=>c75 (k+1) (a.set i.toNat k) is
def atI (ord:List Int) (n:Nat):List Int:=c75 0 (List.replicate n 0) ord
def d09 (a:List Int):Int->List Int->Int
 | t,[]=>t
 | t,k::ks=>d09 a (max t a[k.toNat]!) ks
def d34 (g:Gr) (ds:List Ds) (a:List Int) (i:Nat) (us:List Int):Sp:=⟨a[i]!,if (i:Int)=g.out then g.nodes.length else d09 a a[i]! us,0,upI (a27 ds[i]!.shape ds[i]!.wide)⟩
def d21 (inn x:Sp):Sp:={ inn with b:=max inn.b x.b,len:=x.len }
def b8l (g:Gr) (ds:List Ds) (a:List Int):Nat->List (List Int)->List Sp->Sp->List Sp×Sp
 | _,[],out,inn=>(out,inn)
 | i,us::uss,out,inn=>b8l g ds a (i+1) uss (out++[d34 g ds a i us]) (if g.nodes[i]!.op=1 then d21 inn (d34 g ds a i us) else inn)
def a89 (g:Gr):List (List Int):=c78 (g.nodes.map (·.ins)) 0 (List.replicate g.nodes.length [])
def a3b (g:Gr) (s:Sn):List Sp×Sp:=b8l g s.descs (atI s.ord g.nodes.length) 0 (a89 g) [] ⟨-1,-1,0,4⟩
theorem c5v:∀ {k:Nat} {a is:List Int},(c75 k a is).length=a.length
 | _,_,[]=>rfl
 | k,a,i::is=>by rw [c75,c5v,List.length_set]
theorem e5s {t:Nat}:∀ {rs:List (List Int)} {i:Nat},∀ x∈sp t rs i,x < (i:Int)+rs.length
 | [],i,x,h=>by simp [sp] at h
 | r::rs,i,x,h=>by
  rw [sp] at h
  rcases List.mem_append.1 h with h | h
  ·split at h<;>simp at h; simp; omega
  ·have:=e5s (rs:=rs) (i:=i+1) x h
   simp; omega
theorem a9a {g:Gr}:(a89 g).length=g.nodes.length:=by
 rcases Nat.eq_zero_or_pos g.nodes.length with h | h
 ·have:g.nodes=[]:=List.eq_nil_of_length_eq_zero h
  simp [a89,this,c78]
 ·have:=(b6q (t:=0) (rs:=g.nodes.map (·.ins)) (i:=0) (u:=List.replicate g.nodes.length []) (by simpa using h) (by simp [h])).2
  simpa [a89] using this
theorem c3q {g:Gr} {t:Nat} (h:t < g.nodes.length):(a89 g)[t]! =sp t (g.nodes.map (·.ins)) 0:=by
 have:=(b6q (t:=t) (rs:=g.nodes.map (·.ins)) (i:=0) (u:=List.replicate g.nodes.length []) (by simpa using h) (by simp [h])).1
 simpa [a89,h] using this
theorem d1e {g:Gr}:∀ r∈a89 g,r.length<=g.nodes.length/\∀ x∈r,0<=x/\x < (g.nodes.length:Int):=by
 intro r hr
 obtain ⟨t,ht,rfl⟩:=List.mem_iff_getElem.1 hr
 have h2:t < g.nodes.length:=by rw [<-a9a]; exact ht
 have e:=c3q h2
 rw [a8d ht] at e
 rw [e]
 refine ⟨by have:=d45 (t:=t) (rs:=g.nodes.map (·.ins)) (i:=0); simpa using this,fun x hx=> ?_⟩
 have h3:=e5r x hx
 have h4:=e5s x hx
 simp at h3 h4
 omega
section
variable {G:GG} {bk:Nat->Nat×Nat} {Q:Exit->St->Prop} {st:St}
theorem d35 {g:Gr} {s:Sn} {n:Nat} (hn:n<=64) (hord:∀ x∈s.ord,0<=x/\x < (n:Int)) (hlo:s.ord.length < 2 ^ 36)
  (h:st.s 2= .var [slN g.nodes,li g.out]/\st.s 3= .var (eSn s)/\st.s 5= .var [li 0,li 0,li 0,li 0]/\st.s 6=owI (List.replicate n 0)/\st.s 21=slI s.ord/\st.s 22=li s.ord.length/\st.s 23=li 0)
  (hex:∀ s':St,s'.s 2= .var [slN g.nodes,li g.out]/\s'.s 3= .var (eSn s)/\s'.s 5= .var [li 0,li 0,li 0,li 0]/\s'.s 6=owI (atI s.ord n)->Q (.exit 0) s'):AW pg G 108 (.loop a6w) Q st:=by
 refine a0u (Nat×List Int) (fun p st=>p.1<=s.ord.length/\p.2.length=n/\c75 p.1 p.2 (s.ord.drop p.1)=atI s.ord n/\st.s 2= .var [slN g.nodes,li g.out]/\st.s 3= .var (eSn s)/\st.s 5= .var [li 0,li 0,li 0,li 0]/\st.s 6=owI p.2/\st.s 21=slI s.ord/\st.s 22=li s.ord.length/\st.s 23=li p.1) (fun p=>s.ord.length - p.1) (0,List.replicate n 0) ⟨by simp,by simp,rfl,by simpa using h⟩ ?_
 clear h
 rintro ⟨k,a⟩ st K ⟨hk,hl,hm,h⟩ hK
 simp only at hk hl hm h
 by_cases c:k < s.ord.length
 ·have hx:=hord _ (List.getElem_mem c)
  obtain ⟨i,hi⟩:∃ i:Nat,s.ord[k]=i:=⟨s.ord[k].toNat,by omega⟩
  rw [hi] at hx
  have hin:i < a.length:=by omega
  rw [List.drop_eq_getElem_cons c,c75,hi,Int.toNat_natCast] at hm
  simp (disch:=omega) [go_sem,a6w,h,c,hi,hin]
  exact hK (k+1,a.set i k) _ ⟨by simp only; omega,by simpa using hl,hm,by simp (disch:=omega) [go_sem,h,hin]⟩ (by simp only; omega)
 ·have:k=s.ord.length:=by omega
  subst this
  rw [List.drop_length,c75] at hm
  subst hm
  simp (disch:=omega) [go_sem,a6w,h]
  exact hex _ (by simp (disch:=omega) [go_sem,h])
theorem d36 {g:Gr} {s:Sn} {a us:List Int} {arr:List Sp} {uss:List (List Int)} {inn x:Sp} {i:Nat} (ha:a.length<=64) (hus:us.length<=64) (hu:∀ k∈us,0<=k/\k < (a.length:Int))
  (h:st.s 2= .var [slN g.nodes,li g.out]/\st.s 3= .var (eSn s)/\st.s 5= .var [li 0,li 0,li 0,li 0]/\st.s 6=owI a/\st.s 9=owS arr/\st.s 10= .var (eS inn)/\st.s 11=li i/\st.s 13= .var (eS x)/\st.s 39=a6t uss/\st.s 40=li uss.length/\st.s 41=li i/\st.s 62=slI us/\st.s 63=li us.length/\st.s 64=li 0)
  (hex:∀ s':St,s'.s 2= .var [slN g.nodes,li g.out]/\s'.s 3= .var (eSn s)/\s'.s 5= .var [li 0,li 0,li 0,li 0]/\s'.s 6=owI a/\s'.s 9=owS arr/\s'.s 10= .var (eS inn)/\s'.s 11=li i/\s'.s 13= .var (eS { x with b:=d09 a x.b us })/\s'.s 39=a6t uss/\s'.s 40=li uss.length/\s'.s 41=li i->Q (.exit 4) s'):AW pg G 108 (.loop a6x) Q st:=by
 refine a0u (Nat×Int) (fun p st=>p.1<=us.length/\d09 a p.2 (us.drop p.1)=d09 a x.b us/\st.s 2= .var [slN g.nodes,li g.out]/\st.s 3= .var (eSn s)/\st.s 5= .var [li 0,li 0,li 0,li 0]/\st.s 6=owI a/\st.s 9=owS arr/\st.s 10= .var (eS inn)/\st.s 11=li i/\st.s 13= .var (eS { x with b:=p.2 })/\st.s 39=a6t uss/\st.s 40=li uss.length/\st.s 41=li i/\st.s 62=slI us/\st.s 63=li us.length/\st.s 64=li p.1) (fun p=>us.length - p.1) (0,x.b) ⟨by simp,by simp,by simpa using h⟩ ?_
 clear h
 rintro ⟨k,t⟩ st K ⟨hk,hm,h⟩ hK
 simp only at hk hm h
 by_cases c:k < us.length
 ·have hx:=hu _ (List.getElem_mem c)
  obtain ⟨j,hj⟩:∃ j:Nat,us[k]=j:=⟨us[k].toNat,by omega⟩
  rw [hj] at hx
  have hja:j < a.length:=by omega
  rw [List.drop_eq_getElem_cons c,d09,hj,Int.toNat_natCast,a8d hja] at hm
  simp (disch:=omega) [go_sem,a6x,h,c,hj,hja,eS]
  refine a0b ?_
  simp (disch:=omega) [go_sem,h,c,hj,hja,eS]
  refine a0d (by decide) fun s2 hs hep=> ?_
  simp (disch:=omega) [go_sem,hs,hep,h]
  exact hK (k+1,max t a[j]) _ ⟨by simp only; omega,hm,by simp (disch:=omega) [go_sem,hs,hep,h,eS,b0q]⟩ (by simp only; omega)
 ·have:k=us.length:=by omega
  subst this
  rw [List.drop_length,d09] at hm
  subst hm
  simp (disch:=omega) [go_sem,a6x,h]
  exact hex _ (by simp (disch:=omega) [go_sem,h])
theorem d37 (hS:Sent3 G bk) {g:Gr} {s:Sn} {a:List Int} (hn:g.nodes.length<=64) (ha:a.length=g.nodes.length) (hd:s.descs.length=g.nodes.length) (hsh:∀ d∈s.descs,d.shape.length < 2 ^ 62)
  (h:st.s 2= .var [slN g.nodes,li g.out]/\st.s 3= .var (eSn s)/\st.s 5= .var [li 0,li 0,li 0,li 0]/\st.s 6=owI a/\st.s 9=owS (List.replicate g.nodes.length sp0)/\st.s 10= .var [li (-1),li (-1),li 0,li 4]/\st.s 39=a6t (a89 g)/\st.s 40=li (a89 g).length/\st.s 41=li 0)
  (hex:∀ s':St,s'.s 5= .var [li 0,li 0,li 0,li 0]/\s'.s 9=owS (b8l g s.descs a 0 (a89 g) [] ⟨-1,-1,0,4⟩).1/\s'.s 10= .var (eS (b8l g s.descs a 0 (a89 g) [] ⟨-1,-1,0,4⟩).2)->Q (.exit 2) s'):AW pg G 108 (.loop a6y) Q st:=by
 have hul:=a9a (g:=g)
 have hur:=d1e (g:=g)
 generalize a89 g=uss at *
 refine a0u (Nat×List Sp×List Sp×Sp) (fun p st=>p.1<=uss.length/\p.2.1.length=p.1/\p.2.2.1=p.2.1++List.replicate (g.nodes.length - p.1) sp0/\b8l g s.descs a p.1 (uss.drop p.1) p.2.1 p.2.2.2=b8l g s.descs a 0 uss [] ⟨-1,-1,0,4⟩/\st.s 2= .var [slN g.nodes,li g.out]/\st.s 3= .var (eSn s)/\st.s 5= .var [li 0,li 0,li 0,li 0]/\st.s 6=owI a/\st.s 9=owS p.2.2.1/\st.s 10= .var (eS p.2.2.2)/\st.s 39=a6t uss/\st.s 40=li uss.length/\st.s 41=li p.1) (fun p=>uss.length - p.1) (0,[],List.replicate g.nodes.length sp0,⟨-1,-1,0,4⟩) ⟨by simp,rfl,by simp,rfl,by simpa [eS] using h⟩ ?_
 clear h
 rintro ⟨i,out,arr,inn⟩ st K ⟨hi,hol,har,hm,h⟩ hK
 simp only at hi hol har hm h
 have hla:arr.length=g.nodes.length:=by rw [har]; simp; omega
 by_cases c:i < uss.length
 ·have hr:=hur _ (List.getElem_mem c)
  have c1:i < g.nodes.length:=by omega
  have c2:i < a.length:=by omega
  have c3:i < s.descs.length:=by omega
  have c4:i < arr.length:=by omega
  have hset:∀ x,arr.set i x=(out++[x])++List.replicate (g.nodes.length - (i+1)) sp0:=by
   intro x
   rw [har,show g.nodes.length - i=(g.nodes.length - (i+1))+1 by omega,<-hol]
   exact d00
  rw [List.drop_eq_getElem_cons c,b8l] at hm
  have hsd:=hsh _ (List.getElem_mem c3)
  have e0:d34 g s.descs a i uss[i]=⟨a[i],if (i:Int)=g.out then g.nodes.length else d09 a a[i] uss[i],0,upI (a27 s.descs[i].shape s.descs[i].wide)⟩:=by
   simp only [d34,a8d c2,a8d c3]
  rw [e0,a8d c1] at hm
  have hby:=d1t (G:=G) hS s.descs[i].shape s.descs[i].wide hsd
  have hel:=a5x s.descs[i].shape
  have hup:=f5l (G:=G) (a27 s.descs[i].shape s.descs[i].wide) (by unfold a27; split<;>omega)
  generalize hdv:s.descs[i]=d at *
  generalize a27 d.shape d.wide=nb at *
  generalize huv:uss[i]=us at *
  simp (disch:=omega) [go_sem,a6y,h,c,huv]
  refine a0b ?_
  simp (disch:=omega) [go_sem,h,c,c2,c3,eSn,hdv]
  refine a0m hby rfl rfl (by simp) [59] (by simp) (by simp (disch:=omega) [go_sem]) ?_
  simp (disch:=omega) [go_sem,h,c,c2,c3,eSn,hdv]
  refine a0m hup rfl rfl (by simp) [60] (by simp) (by simp (disch:=omega) [go_sem]) ?_
  simp (disch:=omega) [go_sem,h,c,c2,c3,eSn,hdv]
  refine a0d (by decide) fun s2 hs hep=> ?_
  simp (disch:=omega) [go_sem,hs,hep,h,c,huv]
  refine d36 (g:=g) (s:=s) (a:=a) (us:=us) (arr:=arr) (uss:=uss) (inn:=inn) (x:=⟨a[i],a[i],0,upI nb⟩) (i:=i) (by omega) (by omega) (fun k hk=>by have:=hr.2 k hk; omega) (by simp (disch:=omega) [go_sem,hs,hep,h,eS,eSn]) (fun s3 h3=> ?_)
  simp only [eS,eSn] at h3
  by_cases ho:(i:Int)=g.out
  ·rw [if_pos ho] at hm
   by_cases hop:g.nodes[i].op=1
   ·rw [if_pos hop] at hm
    simp (disch:=omega) [go_sem,h3,c1,ho.symm,hop]
    refine a0b ?_
    simp (disch:=omega) [go_sem,h3,c1,ho.symm,hop]
    refine a0d (by decide) fun s4 hs4 hep4=> ?_
    simp (disch:=omega) [go_sem,hs4,hep4,h3]
    exact hK (i+1,_,arr.set i _,_) _ ⟨by simp only; omega,by simp [hol],hset _,hm,by simp (disch:=omega) [go_sem,hs4,hep4,h3,eS,eSn,d21,b16,c4,b0q]⟩ (by simp only; omega)
   ·rw [if_neg hop] at hm
    simp (disch:=omega) [go_sem,h3,c1,ho.symm,hop]
    exact hK (i+1,_,arr.set i _,_) _ ⟨by simp only; omega,by simp [hol],hset _,hm,by simp (disch:=omega) [go_sem,h3,eS,eSn,b16,c4]⟩ (by simp only; omega)
  ·rw [if_neg ho] at hm
   by_cases hop:g.nodes[i].op=1
   ·rw [if_pos hop] at hm
    simp (disch:=omega) [go_sem,h3,c1,ho,hop]
    refine a0b ?_
    simp (disch:=omega) [go_sem,h3,c1,ho,hop]
    refine a0d (by decide) fun s4 hs4 hep4=> ?_
    simp (disch:=omega) [go_sem,hs4,hep4,h3]
    exact hK (i+1,_,arr.set i _,_) _ ⟨by simp only; omega,by simp [hol],hset _,hm,by simp (disch:=omega) [go_sem,hs4,hep4,h3,eS,eSn,d21,b16,c4,b0q]⟩ (by simp only; omega)
   ·rw [if_neg hop] at hm
    simp (disch:=omega) [go_sem,h3,c1,ho,hop]
    exact hK (i+1,_,arr.set i _,_) _ ⟨by simp only; omega,by simp [hol],hset _,hm,by simp (disch:=omega) [go_sem,h3,eS,eSn,b16,c4]⟩ (by simp only; omega)
 ·have:i=uss.length:=by omega
  subst this
  rw [List.drop_length,b8l] at hm
  have:arr=out:=by rw [har,<-hul]; simp
  subst this
  simp (disch:=omega) [go_sem,a6y,h]
  rw [<-hm] at hex
  exact hex _ (by simp (disch:=omega) [go_sem,h])
theorem d7z (hS:Sent3 G bk) (g:Gr) (s:Sn) (hn:g.nodes.length<=64) (htot:tot (g.nodes.map (·.ins)) < 2 ^ 40) (hord:∀ x∈s.ord,0<=x/\x < (g.nodes.length:Int)) (hlo:s.ord.length < 2 ^ 36) (hd:s.descs.length=g.nodes.length) (hsh:∀ d∈s.descs,d.shape.length < 2 ^ 62):ACalls pg G c1g [d1i g,.agg (eSn s)] (.tup [owS (a3b g s).1,.agg (eS (a3b g s).2)]):=by
 refine b7c rfl ?_
 simp (disch:=omega) [go_sem,b5k,eSn]
 refine d35 (g:=g) (s:=s) (n:=g.nodes.length) hn hord hlo (by simp (disch:=omega) [go_sem,eSn]) (fun s1 h1=> ?_)
 simp only [eSn] at h1
 simp (disch:=omega) [go_sem,h1,c5e]
 refine a0g ((e51 g.nodes g.out (by omega) htot).shown (res':=a6t (a89 g)) (by simp (disch:=omega) [go_sem,a89])) (by simp (disch:=omega) [go_sem]) (by simp (disch:=omega) [go_sem]) ?_
 simp (disch:=omega) [go_sem,h1]
 refine d37 hS (g:=g) (s:=s) (a:=atI s.ord g.nodes.length) hn (by simp [atI,c5v]) hd hsh (by simp (disch:=omega) [go_sem,h1,eSn]) (fun s2 h2=> ?_)
 simp only [eS] at h2
 simp (disch:=omega) [go_sem,h2]
 refine a0b ?_
 simp (disch:=omega) [go_sem,h2]
 refine a0d (by decide) fun s3 hs hep=> ?_
 simp (disch:=omega) [go_sem,hs,hep,h2,a3b,eS]
end
def b0a (g:Gr) (out:List Sp):List Int->List Sp
 | []=>[]
 | i::is=>if g.nodes[i.toNat]!.op=1 then b0a g out is else out[i.toNat]! ::b0a g out is
def a6d (g:Gr) (inn:Sp) (offs:List Int):List Sp->Nat->Bool->List Int->List Sp×Bool
 | out,_,nn,[]=>(out,nn)
 | out,k,nn,i::is=>if g.nodes[i.toNat]!.op=1 then a6d g inn offs (out.set i.toNat inn) k false is else a6d g inn offs (out.set i.toNat { out[i.toNat]! with off:=offs[k]! }) (k+1) nn is
def e8c (g:Gr) (out:List Sp) (inn:Sp) (offs:List Int) (ord:List Int):List Sp:=
 if (a6d g { inn with off:=offs[0]! } offs out 1 true ord).2=true then (a6d g { inn with off:=offs[0]! } offs out 1 true ord).1++[{ inn with off:=offs[0]! }] else (a6d g { inn with off:=offs[0]! } offs out 1 true ord).1
def c2s (g:Gr) (s:Sn):(List Sp×Int)×Er:=
 if 65536 < (a5k ((a3b g s).2::b0a g (a3b g s).1 s.ord)).2 then (([],0),.s 7)
 else ((e8c g (a3b g s).1 (a3b g s).2 (a5k ((a3b g s).2::b0a g (a3b g s).1 s.ord)).1 s.ord,(a5k ((a3b g s).2::b0a g (a3b g s).1 s.ord)).2),.nil)
def b2s (g:Gr):(List Sp×Int)×Er:=if (ofR g).2.isNil=true then c2s g (ofR g).1 else (([],0),(ofR g).2)
theorem b1k {l:List AV} {i:Nat} {v:AV} (h:i < l.length):a0f l i [v]=l.set i v:=by
 rw [List.set_eq_take_append_cons_drop,if_pos h]; simp [a0f]
theorem c8z {xs:List Sp} {i:Nat} {v:Int} (h:i < xs.length):a0f (fm eS xs) (i*4+2) [li v]=fm eS (xs.set i { xs[i] with off:=v }):=by
 rw [b1k (by rw [c2a]; omega)]
 induction xs generalizing i with
 | nil=>simp at h
 | cons x xs ih=>
  cases i with
  | zero=>rfl
  | succ i=>
   have:=ih (i:=i) (by simpa using h)
   rw [List.set_cons_succ,a7a,a7a,show (i+1)*4+2=(eS x).length+(i*4+2) by simp [eS]; omega,List.set_append_right _ _ (by omega),Nat.add_sub_cancel_left,this]
   rfl
theorem b75 {g:Gr} {o1:List Sp}:∀ {is:List Int},(b0a g o1 is).length<=is.length
 | []=>Nat.le_refl _
 | i::is=>by
  have:=b75 (g:=g) (o1:=o1) (is:=is)
  rw [b0a]
  split<;>simp<;>omega
theorem c0w {N:Nat}:∀ {ss ds:List Sp} {os:List Int} {m:Int},(d0c N ds os m ss).1.length=os.length+ss.length
 | [],_,_,_=>rfl
 | s::ss,ds,os,m=>by
  rw [d0c]
  split<;>rw [c0w]<;>simp<;>omega
theorem b6p {g:Gr} {ds:List Ds} {a:List Int}:∀ {us:List (List Int)} {i:Nat} {out:List Sp} {inn:Sp},(b8l g ds a i us out inn).1.length=out.length+us.length
 | [],_,_,_=>rfl
 | u::us,i,out,inn=>by
  rw [b8l,b6p]; simp; omega
theorem f21 {s:List Int} {w:Bool}:0<=upI (a27 s w)/\upI (a27 s w) < 2 ^ 63:=by
 have:=a5x s
 exact d1d (by unfold a27; split<;>omega)
theorem c6o {g:Gr} {ds:List Ds} {a:List Int}:∀ {us:List (List Int)} {i:Nat} {out:List Sp} {inn:Sp},(∀ x∈out,x.len < 2 ^ 63)->inn.len < 2 ^ 63->(∀ x∈(b8l g ds a i us out inn).1,x.len < 2 ^ 63)/\(b8l g ds a i us out inn).2.len < 2 ^ 63
 | [],_,_,_,h,h2=>⟨h,h2⟩
 | u::us,i,out,inn,h,h2=>by
  rw [b8l]
  have hb:(d34 g ds a i u).len < 2 ^ 63:=f21.2
  refine c6o (fun x hx=> ?_) ?_
  ·rcases List.mem_append.1 hx with hx | hx
   ·exact h x hx
   ·simp at hx; rw [hx]; exact hb
  ·split
   ·exact hb
   ·exact h2
theorem b6o {g:Gr} {out:List Sp}:∀ {is:List Int},(∀ i∈is,0<=i/\i < (out.length:Int))->∀ x∈b0a g out is,x∈out
 | [],_,x,h=>by simp [b0a] at h
 | i::is,hi,x,h=>by
  rw [b0a] at h
  split at h
  ·exact b6o (fun k hk=>hi k (by simp [hk])) x h
  ·rcases List.mem_cons.1 h with h | h
   ·have:=hi i (by simp)
    rw [h,a8d (by omega)]
    exact List.getElem_mem _
   ·exact b6o (fun k hk=>hi k (by simp [hk])) x h
section
variable {G:GG} {bk:Nat->Nat×Nat} {Q:Exit->St->Prop} {st:St}
theorem e3h {g:Gr} {s:Sn} {out:List Sp} {inn:Sp} (hn:g.nodes.length<=64) (hlo:out.length=g.nodes.length) (hord:∀ x∈s.ord,0<=x/\x < (g.nodes.length:Int)) (hol:s.ord.length < 2 ^ 36)
  (h:st.s 1= .var [slN g.nodes,li g.out]/\st.s 2=owS []/\st.s 3=li 0/\st.s 4= .lit .nilIface/\st.s 5= .var (eSn s)/\st.s 7=owS out/\st.s 8= .var (eS inn)/\st.s 9=owS [inn]/\st.s 37=slI s.ord/\st.s 38=li s.ord.length/\st.s 39=li 0)
  (hex:∀ s':St,s'.s 1= .var [slN g.nodes,li g.out]/\s'.s 2=owS []/\s'.s 3=li 0/\s'.s 4= .lit .nilIface/\s'.s 5= .var (eSn s)/\s'.s 7=owS out/\s'.s 8= .var (eS inn)/\s'.s 9=owS (inn::b0a g out s.ord)->Q (.exit 0) s'):AW pg G 106 (.loop a8o) Q st:=by
 refine a0u (Nat×List Sp) (fun p st=>p.1<=s.ord.length/\p.2.length<=p.1+1/\p.2++b0a g out (s.ord.drop p.1)=inn::b0a g out s.ord/\st.s 1= .var [slN g.nodes,li g.out]/\st.s 2=owS []/\st.s 3=li 0/\st.s 4= .lit .nilIface/\st.s 5= .var (eSn s)/\st.s 7=owS out/\st.s 8= .var (eS inn)/\st.s 9=owS p.2/\st.s 37=slI s.ord/\st.s 38=li s.ord.length/\st.s 39=li p.1) (fun p=>s.ord.length - p.1) (0,[inn]) ⟨by simp,by simp,rfl,by simpa using h⟩ ?_
 clear h
 rintro ⟨j,l⟩ st K ⟨hj,hll,hm,h⟩ hK
 simp only at hj hll hm h
 by_cases c:j < s.ord.length
 ·have hx:=hord _ (List.getElem_mem c)
  obtain ⟨i,hi⟩:∃ i:Nat,s.ord[j]=i:=⟨s.ord[j].toNat,by omega⟩
  rw [hi] at hx
  have c1:i < g.nodes.length:=by omega
  have c2:i < out.length:=by omega
  rw [List.drop_eq_getElem_cons c,b0a,hi,Int.toNat_natCast,a8d c1,a8d c2] at hm
  by_cases hop:g.nodes[i].op=1
  ·rw [if_pos hop] at hm
   simp (disch:=omega) [go_sem,a8o,h,c,hi,c1,hop]
   exact hK (j+1,l) _ ⟨by simp only; omega,by simp only; omega,hm,by simp (disch:=omega) [go_sem,h]⟩ (by simp only; omega)
  ·rw [if_neg hop] at hm
   simp (disch:=omega) [go_sem,a8o,h,c,hi,c1,c2,hop]
   exact hK (j+1,l++[out[i]]) _ ⟨by simp only; omega,by simp; omega,by simpa using hm,by simp (disch:=omega) [go_sem,h,b17,a9v,eS]⟩ (by simp only; omega)
 ·have:j=s.ord.length:=by omega
  subst this
  rw [List.drop_length,b0a,List.append_nil] at hm
  subst hm
  simp (disch:=omega) [go_sem,a8o,h]
  exact hex _ (by simp (disch:=omega) [go_sem,h])
theorem e3i {g:Gr} {s:Sn} {out:List Sp} {inn:Sp} {offs:List Int} {n:Int} (hn:g.nodes.length<=64) (hlo:out.length=g.nodes.length) (hord:∀ x∈s.ord,0<=x/\x < (g.nodes.length:Int)) (hol:s.ord.length < 2 ^ 36) (hof:offs.length=1+(b0a g out s.ord).length)
  (h:st.s 1= .var [slN g.nodes,li g.out]/\st.s 2=owS []/\st.s 3=li 0/\st.s 4= .lit .nilIface/\st.s 5= .var (eSn s)/\st.s 7=owS out/\st.s 8= .var (eS inn)/\st.s 12=owI offs/\st.s 13=li n/\st.s 14=li 1/\st.s 15=lb true/\st.s 71=slI s.ord/\st.s 72=li s.ord.length/\st.s 73=li 0)
  (hex:∀ s':St,(s'.s 2=owS []/\s'.s 3=li 0/\s'.s 4= .lit .nilIface/\s'.s 7=owS (a6d g inn offs out 1 true s.ord).1/\s'.s 8= .var (eS inn)/\s'.s 13=li n/\s'.s 15=lb (a6d g inn offs out 1 true s.ord).2)/\(a6d g inn offs out 1 true s.ord).1.length=out.length->Q (.exit 2) s'):AW pg G 106 (.loop a8p) Q st:=by
 refine a0u (Nat×List Sp×Nat×Bool) (fun p st=>p.1<=s.ord.length/\p.2.1.length=g.nodes.length/\p.2.2.1+(b0a g out (s.ord.drop p.1)).length=offs.length/\a6d g inn offs p.2.1 p.2.2.1 p.2.2.2 (s.ord.drop p.1)=a6d g inn offs out 1 true s.ord/\st.s 1= .var [slN g.nodes,li g.out]/\st.s 2=owS []/\st.s 3=li 0/\st.s 4= .lit .nilIface/\st.s 5= .var (eSn s)/\st.s 7=owS p.2.1/\st.s 8= .var (eS inn)/\st.s 12=owI offs/\st.s 13=li n/\st.s 14=li p.2.2.1/\st.s 15=lb p.2.2.2/\st.s 71=slI s.ord/\st.s 72=li s.ord.length/\st.s 73=li p.1) (fun p=>s.ord.length - p.1) (0,out,1,true) ⟨by simp,hlo,by simp [hof],rfl,by simpa using h⟩ ?_
 clear h
 have hsl:=b75 (g:=g) (o1:=out) (is:=s.ord)
 rintro ⟨j,o,k,b⟩ st K ⟨hj,hl,hk,hm,h⟩ hK
 simp only at hj hl hk hm h
 by_cases c:j < s.ord.length
 ·have hx:=hord _ (List.getElem_mem c)
  obtain ⟨i,hi⟩:∃ i:Nat,s.ord[j]=i:=⟨s.ord[j].toNat,by omega⟩
  rw [hi] at hx
  have c1:i < g.nodes.length:=by omega
  have c2:i < o.length:=by omega
  rw [List.drop_eq_getElem_cons c,a6d,hi,Int.toNat_natCast,a8d c1,a8d c2] at hm
  rw [List.drop_eq_getElem_cons c,b0a,hi,Int.toNat_natCast,a8d c1] at hk
  by_cases hop:g.nodes[i].op=1
  ·rw [if_pos hop] at hm hk
   simp (disch:=omega) [go_sem,a8p,h,c,hi,c1,c2,hop,eS]
   exact hK (j+1,o.set i inn,k,false) _ ⟨by simp only; omega,by simpa using hl,hk,hm,by simp (disch:=omega) [go_sem,h,c2,eS,b16]⟩ (by simp only; omega)
  ·rw [if_neg hop,List.length_cons] at hk
   have c3:k < offs.length:=by omega
   rw [if_neg hop,a8d c3] at hm
   simp (disch:=omega) [go_sem,a8p,h,c,hi,c1,c2,c3,hop]
   exact hK (j+1,o.set i { o[i] with off:=offs[k] },k+1,b) _ ⟨by simp only; omega,by simpa using hl,by simp only; omega,hm,by simp (disch:=omega) [go_sem,h,c2,c8z]⟩ (by simp only; omega)
 ·have:j=s.ord.length:=by omega
  subst this
  rw [List.drop_length,a6d] at hm
  rw [<-hm] at hex
  simp (disch:=omega) [go_sem,a8p,h]
  exact hex _ ⟨by simp (disch:=omega) [go_sem,h],by simp only; omega⟩
theorem e3g (hS:SentO G bk) (hA:Around G bk) (g:Gr) (hf:∀ n∈g.nodes,n.sh) (hn:g.nodes.length < 2 ^ 36) (htot:tot (g.nodes.map (·.ins)) < 2 ^ 40)
  (hok:(ofR g).2.isNil=true->g.nodes.length<=64/\(∀ x∈(ofR g).1.ord,0<=x/\x < (g.nodes.length:Int))/\(ofR g).1.ord.length < 2 ^ 36/\(ofR g).1.descs.length=g.nodes.length/\∀ d∈(ofR g).1.descs,d.shape.length < 2 ^ 62) :
  ACalls pg G c1e [d1i g] (.tup [owS (b2s g).1.1,li (b2s g).1.2,a05 bk (b2s g).2]):=by
 have h1:=hS.val 1 (by decide)
 refine c2u rfl ?_
 simp (disch:=omega) [go_sem,c2t]
 refine a0g (f6d hS hA g hf hn htot) (by simp [go_sem,eSn,a0p]) (by simp (disch:=omega) [go_sem]) ?_
 rw [b2s]
 generalize hr:ofR g=r at *
 obtain ⟨s,e⟩:=r
 simp only at hok ⊢
 cases he:e.isNil with
 | false=>
  simp (disch:=omega) [go_sem,he,a5s,eSn]
 | true=>
  obtain ⟨hl,hord,hol,hd,hsh⟩:=hok he
  obtain rfl:e= .nil:=by cases e<;>simp_all [Er.isNil]
  simp (disch:=omega) [go_sem,he,eSn]
  refine a5w (d7z hS.three g s hl htot hord hol hd hsh) (by simp [go_sem,a0p,eS]) ?_ ?_
  all_goals
   simp only [c2s]
   have hso:(a3b g s).1.length=g.nodes.length:=by rw [a3b,b6p,a9a]; simp
   have hsr:=c6o (g:=g) (ds:=s.descs) (a:=atI s.ord g.nodes.length) (us:=a89 g) (i:=0) (out:=[]) (inn:=⟨-1,-1,0,4⟩) (by simp) (by simp)
   rw [<-a3b] at hsr
   generalize a3b g s=q at *
   obtain ⟨out,inn⟩:=q
   simp only at hso hsr ⊢
   simp (disch:=omega) [go_sem,eS]
   refine e3h (g:=g) (s:=s) (out:=out) (inn:=inn) hl hso hord hol (by simp (disch:=omega) [go_sem,eS,eSn,a9v,a5s]) (fun s1 h1'=> ?_)
   simp only [eS,eSn] at h1'
   have hmem:∀ x∈inn::b0a g out s.ord,x.len < 2 ^ 63:=by
    intro x hx
    rcases List.mem_cons.1 hx with hx | hx
    ·rw [hx]; exact hsr.2
    ·exact hsr.1 x (b6o (fun i hi=>by have:=hord i hi; omega) x hx)
   have hsl:=b75 (g:=g) (o1:=out) (is:=s.ord)
   have hpl:(a5k (inn::b0a g out s.ord)).1.length=1+(b0a g out s.ord).length:=by rw [a5k,c0w]; simp; omega
   have spec:=d60 (G:=G) (inn::b0a g out s.ord) (by simp; omega) hmem
   generalize inn::b0a g out s.ord=ll at *
   generalize a5k ll=p at *
   obtain ⟨offs,n⟩:=p
   simp only at hpl spec ⊢
   simp (disch:=omega) [go_sem,h1']
   refine a5w spec (by simp [go_sem,a0p]) ?_ ?_
   all_goals
    by_cases hn6:65536 < n
    ·simp (disch:=omega) [go_sem,h1',hn6]
     refine a0b ?_
     simp (disch:=omega) [go_sem,h1',h1]
     refine a0d (by decide) fun s2 hs2 hep=> ?_
     simp (disch:=omega) [go_sem,hs2,h1',a5s,a05]
    ·have c0:0 < offs.length:=by omega
     simp (disch:=omega) [go_sem,h1',hn6,c0]
     refine e3i (g:=g) (s:=s) (out:=out) (inn:={ inn with off:=offs[0] }) (offs:=offs) (n:=n) hl hso hord hol hpl (by simp (disch:=omega) [go_sem,h1',eS,eSn,c0]) (fun s2 h2=> ?_)
     obtain ⟨h2,h2l⟩:=h2
     rw [e8c,a8d c0]
     generalize a6d g { inn with off:=offs[0] } offs out 1 true s.ord=pg2 at *
     obtain ⟨o2,b⟩:=pg2
     simp only [eS] at h2 h2l ⊢
     cases b
     ·simp (disch:=omega) [go_sem,h2,a05]
     ·have hta:∀ vs:List AV,vs.length=4->(fm eS o2++vs).take ((o2.length+1)*4)=fm eS o2++vs:=fun vs hv=>List.take_of_length_le (by rw [List.length_append,c2a,hv]; omega)
      simp (disch:=omega) [go_sem,h2,a05,b17,a9v,eS]
      exact hta _ rfl
end
end Go.Ideal.Tryz
end
section
namespace Go.Ideal.Tryz
def b3f (s x:Sp) (o off:Int):Prop:=0 < x.len/\max s.a x.a<=min s.b x.b/\off < o+x.len/\o < off+s.len
def okZ (zs:List (Sp×Int)):Prop:=∀ p∈zs,0<=p.2/\p.2 < 2 ^ 60/\p.1.len < 2 ^ 60
theorem c59 {s x:Sp} {o off:Int} (ho:0<=o/\o < 2 ^ 60) (hx:x.len < 2 ^ 60) (hs:s.len < 2 ^ 60) (hf:0<=off/\off < 2 ^ 62):c09 s x o off=true↔b3f s x o off:=by
 unfold c09 b3f b8s upI
 simp only [Bool.and_eq_true,decide_eq_true_eq]
 constructor
 ·rintro ⟨⟨h1,h2⟩,⟨h3,h4⟩,h5⟩
  refine ⟨h1,h2,?_,?_⟩
  ·split at h3<;>omega
  ·split at h4<;>omega
 ·rintro ⟨h1,h2,h3,h4⟩
  rw [if_neg (show ¬ (9223372036854775807 - o < x.len) by omega),if_neg (show ¬ (9223372036854775807 - off < s.len) by omega),if_neg (by omega)]
  refine ⟨⟨h1,h2⟩,⟨h3,h4⟩,by omega⟩
theorem b9c {s:Sp} {off:Int} (hs:s.len < 2 ^ 60) (hf:0<=off/\off < 2 ^ 62):∀ {ds:List Sp} {os:List Int},okZ (ds.zip os)->a6n s off ds os=none->∀ p∈ds.zip os,¬ b3f s p.1 p.2 off
 | [],_,_,_,p,hp=>by simp at hp
 | _::_,[],_,_,p,hp=>by simp at hp
 | x::xs,o::os,hz,h,p,hp=>by
  have h1:=hz (x,o) (by simp)
  rw [a6n] at h
  split at h
  ·simp at h
  ·rename_i hb
   rw [List.zip_cons_cons] at hp
   rcases List.mem_cons.1 hp with rfl | hp
   ·exact fun hc=>hb ((c59 ⟨h1.1,h1.2.1⟩ h1.2.2 hs hf).2 hc)
   ·exact b9c hs hf (fun q hq=>hz q (by rw [List.zip_cons_cons]; exact List.mem_cons_of_mem _ hq)) h p hp
theorem b9d {s:Sp} {off:Int} (hs:s.len < 2 ^ 60) (hf:0<=off/\off < 2 ^ 62):∀ {ds:List Sp} {os:List Int} {o:Int},okZ (ds.zip os)->a6n s off ds os=some o->∃ p∈ds.zip os,b3f s p.1 p.2 off/\o=(p.2+p.1.len+3) / 4*4
 | [],_,_,_,h=>by simp [a6n] at h
 | _::_,[],_,_,h=>by simp [a6n] at h
 | x::xs,y::os,o,hz,h=>by
  have h1:=hz (x,y) (by simp)
  simp only at h1
  rw [a6n] at h
  split at h
  ·rename_i hb
   have hc:=(c59 ⟨h1.1,h1.2.1⟩ h1.2.2 hs hf).1 hb
   refine ⟨(x,y),by simp,hc,?_⟩
   simp only [Option.some.injEq] at h
   rw [<-h]
   unfold b8s upI
   rw [if_neg (show ¬ (9223372036854775807 - y < x.len) by omega),if_neg (by omega)]
  ·obtain ⟨p,hp,h2⟩:=b9d hs hf (fun q hq=>hz q (by rw [List.zip_cons_cons]; exact List.mem_cons_of_mem _ hq)) h
   exact ⟨p,by rw [List.zip_cons_cons]; exact List.mem_cons_of_mem _ hp,h2⟩
theorem b42 {s:Sp} {ds:List Sp} {os:List Int} (hs:s.len < 2 ^ 60) (hz:okZ (ds.zip os)):∀ {n:Nat} {off:Int},2 ^ 63 - off<=n->0<=off/\off < 2 ^ 62->off % 4=0->(∀ m,0<=m->m < off->m % 4=0->∃ p∈ds.zip os,b3f s p.1 p.2 m)->
  (0<=a4l s ds os n off/\a4l s ds os n off < 2 ^ 62)/\a4l s ds os n off % 4=0/\(∀ p∈ds.zip os,¬ b3f s p.1 p.2 (a4l s ds os n off))/\∀ m,0<=m->m < a4l s ds os n off->m % 4=0->∃ p∈ds.zip os,b3f s p.1 p.2 m
 | 0,off,hn,hf,h4,hb=>by omega
 | n+1,off,hn,hf,h4,hb=>by
  rw [a4l]
  split
  ·rename_i e
   exact ⟨hf,h4,b9c hs hf hz e,hb⟩
  ·rename_i o e
   obtain ⟨p,hp,hc,rfl⟩:=b9d hs hf hz e
   have h1:=hz p hp
   obtain ⟨c1,c2,c3,c4⟩:=hc
   refine b42 hs hz (by omega) (by omega) (by omega) (fun m hm hm2 hm4=> ?_)
   by_cases hlt:m < off
   ·exact hb m hm hlt hm4
   ·exact ⟨p,hp,c1,c2,by omega,by omega⟩
theorem b9a {ns:List Nd} (hf:∀ n∈ns,n.sh) {m:Nat} (hin:∀ n∈ns,∀ k∈n.ins,0<=k/\k < (m:Int)):∀ {is:List Int} {l:Lk},l.fin->l.descs.length=m->(∀ i∈is,0<=i/\i < (ns.length:Int))->(a1y ns l is).2.isNil=true->
  (a1y ns l is).1.ord=l.ord/\(a1y ns l is).1.descs.length=m/\(∀ d∈(a1y ns l is).1.descs,d.shape.length < 2 ^ 40)/\(a1y ns l is).1.hin.shape.length < 2 ^ 36/\(a1y ns l is).1.ws.length<=8
 | [],l,hl,hm,hi,h=>⟨rfl,hm,hl.descs,hl.hin,hl.ws⟩
 | i::is,l,hl,hm,hi,h=>by
  have hi0:=hi i (by simp)
  have hlt:i.toNat < ns.length:=by omega
  have hmem:=List.getElem_mem hlt
  have hfin:=b7p hl (hf _ hmem)
  have hlen:=b7q hl (hf _ hmem) (fun _ k hk=>by rw [hm]; exact hin _ hmem k hk)
  have hde:=a9h (l:=l) (n:=ns[i.toNat])
  have hnil:∀ e:Er,(atE i e).isNil=true->e.isNil=true:=by
   intro e; cases e<;>simp [atE,Er.isNil]
  rw [a1y,a8d hlt] at h ⊢
  generalize a12 l ns[i.toNat]=r at *
  obtain ⟨⟨d,e⟩,l2⟩:=r
  simp only at h hfin hlen hde ⊢
  cases he:e.isNil with
  | false=>
   rw [he] at h
   simp only [Bool.false_eq_true,if_false] at h
   rw [hnil e h] at he
   cases he
  | true=>
   rw [he] at h
   simp only [if_true] at h ⊢
   have:=b9a hf hin (l:={ l2 with descs:=l2.descs.set i.toNat d }) ⟨fun x hx=>by
    rcases List.mem_or_eq_of_mem_set hx with hx | rfl
    ·exact hfin.descs x hx
    ·exact hlen,hfin.hin,hfin.vals,hfin.ws⟩ (by simp only [List.length_set]; rw [hde.1]; exact hm) (fun k hk=>hi k (by simp [hk])) h
   exact ⟨this.1.trans hde.2,this.2⟩
theorem c6f {g:Gr} (hf:∀ n∈g.nodes,n.sh) (h:(ofR g).2.isNil=true) :
  g.nodes.length<=64/\(0<=g.out/\g.out < (g.nodes.length:Int))/\a9i (g.nodes.map (·.ins))= .ok (ofR g).1.ord/\(∀ x∈(ofR g).1.ord,0<=x/\x < (g.nodes.length:Int))/\(ofR g).1.ord.length=g.nodes.length/\(ofR g).1.descs.length=g.nodes.length/\(∀ d∈(ofR g).1.descs,d.shape.length < 2 ^ 40)/\(ofR g).1.hin.shape.length < 2 ^ 36/\(ofR g).1.ws.length<=8:=by
 unfold ofR at h ⊢
 by_cases c1:64 < g.nodes.length
 ·rw [if_pos c1] at h; simp [Er.isNil] at h
 rw [if_neg c1] at h ⊢
 by_cases c2:g.out < 0\/g.nodes.length<=g.out
 ·rw [if_pos c2] at h; simp [Er.isNil] at h
 rw [if_neg c2] at h ⊢
 have hr:∀ r∈g.nodes.map (·.ins),r.length < 2 ^ 61:=by
  intro r hr
  obtain ⟨n,hn,rfl⟩:=List.mem_map.1 hr
  have:=(hf n hn).ins
  omega
 cases ho:a9i (g.nodes.map (·.ins)) with
 | error e=>rw [ho] at h; simp [Er.isNil] at h
 | ok ord=>
  rw [ho] at h
  simp only at h ⊢
  have hx:=a5i hr ho
  have hl:=b7x hr ho
  simp only [List.length_map] at hx hl
  have:=b9a hf (m:=g.nodes.length) (fun n hn k hk=>hx.2.2.2.2 n.ins (List.mem_map.2 ⟨n,hn,rfl⟩) k hk) (is:=ord) (l:=lk0 ord g.nodes.length) ⟨fun d hd=>by
   simp only [lk0,List.mem_replicate] at hd
   rw [hd.2]; simp [dn],by simp [lk0,dn],by simp [lk0],by simp [lk0]⟩ (by simp [lk0]) hx.2.2.1 h
  obtain ⟨a1,a2,a3,a4,a5⟩:=this
  have e1:(lk0 ord g.nodes.length).ord=ord:=rfl
  rw [e1] at a1
  rw [a1]
  exact ⟨by omega,by omega,rfl,hx.2.2.1,hl,a2,a3,a4,a5⟩
def inN (args:List Int):Nd:=⟨1,[],args,[],false,[]⟩
def opN (op:Int) (ins args:List Int):Nd:=⟨op,ins,args,[],false,[]⟩
def b9o (n:Nat) (elems:Int) (keep:Bool):List Nd:=inN [0,elems]::(List.range n).map (fun (i:Nat)=>opN 8 [(i:Int)] [])++if keep=true then [opN 7 [(n:Int),1] []] else []
def d44 (n:Nat) (elems:Int) (keep:Bool):Gr:=⟨b9o n elems keep,(b9o n elems keep).length - 1⟩
theorem c0y {n:Nat} {e:Int} {k:Bool}:(b9o n e k).length=n+1+if k=true then 1 else 0:=by
 unfold b9o; cases k<;>simp
theorem d46 {t:Nat} {x:Int}:∀ {rs:List (List Int)} {i:Nat},x∈sp t rs i↔∃ m,m < rs.length/\x=((i+m:Nat):Int)/\(t:Int)∈rs[m]!
 | [],i=>by simp [sp]
 | r::rs,i=>by
  rw [sp,List.mem_append,d46 (rs:=rs)]
  constructor
  ·rintro (h | ⟨m,h1,h2,h3⟩)
   ·split at h
    ·rename_i hr
     simp at h
     exact ⟨0,by simp,by simpa using h,by simpa using hr⟩
    ·simp at h
   ·exact ⟨m+1,by simpa using h1,by rw [h2]; congr 1; omega,by simpa using h3⟩
  ·rintro ⟨m,h1,h2,h3⟩
   cases m with
   | zero=>
    left
    rw [if_pos (by simpa using h3)]
    simpa using h2
   | succ m=>exact .inr ⟨m,by simpa using h1,by rw [h2]; congr 1; omega,by simpa using h3⟩
theorem b70 {g:Gr} {inn:Sp} {offs:List Int}:∀ {is:List Int} {out:List Sp} {k:Nat} {b:Bool},(a6d g inn offs out k b is).1.length=out.length
 | [],_,_,_=>rfl
 | i::is,out,k,b=>by
  rw [a6d]
  split<;>rw [b70,List.length_set]
end Go.Ideal.Tryz
end
section
namespace Go.Ideal.Tryz
attribute [local go_sem] eD
def rdD (args:List Int):Ds:=if args[0]! < 0\/1 < args[0]! then dn else ⟨args.drop 1,decide (args[0]! =1)⟩
section
variable {G:GG} {bk:Nat->Nat×Nat} {Q:Exit->St->Prop} {st:St}
theorem d43 {args:List Int} (h:0 < args.length):(a2n args 0).2.isNil=true->rdD args=(a2n args 0).1:=by
 intro h2
 unfold a2n at h2 ⊢
 have c0:¬ args.length<=0:=by omega
 rw [if_neg c0] at h2 ⊢
 by_cases c:args[0]! ≠0/\args[0]! ≠1
 ·rw [if_pos c] at h2; simp [bad,Er.isNil] at h2
 ·rw [if_neg c] at h2 ⊢
  have c':args[0]! =0\/args[0]! =1:=by
   by_cases h0:args[0]! =0
   ·exact .inl h0
   ·exact .inr (Classical.not_not.1 fun h1=>c ⟨h0,h1⟩)
  have hrd:rdD args=⟨args.drop 1,decide (args[0]! =1)⟩:=by unfold rdD; rw [if_neg (by omega)]
  rw [hrd]
  unfold chk at h2 ⊢
  split at h2
  ·rename_i hv; rw [if_pos hv]
  ·rename_i hv; exact absurd h2 hv
theorem c6j (args:List Int) (hl:0 < args.length) (hlen:args.length < 2 ^ 36):ACalls pg G b4m [slI args] (.tup [.agg (eD (rdD args)),li (eC (a2n args 0).2)]):=by
 refine b1r rfl ?_
 have hg:args[0]! =args[0]:=a8d hl
 by_cases z1:args[0] < 0
 ·simp (disch:=omega) [go_sem,a39,hl,z1]
  have e:a2n args 0=bad 3:=by
   unfold a2n; rw [if_neg (by omega),hg,if_pos (by omega)]
  have hrd:rdD args=dn:=by unfold rdD; rw [hg,if_pos (.inl z1)]
  simp (disch:=omega) [go_sem,hrd,e,bad,dn,eC3]
 by_cases z2:1 < args[0]
 ·simp (disch:=omega) [go_sem,a39,hl,z1,z2]
  have e:a2n args 0=bad 3:=by
   unfold a2n; rw [if_neg (by omega),hg,if_pos (by omega)]
  have hrd:rdD args=dn:=by unfold rdD; rw [hg,if_pos (.inr z2)]
  simp (disch:=omega) [go_sem,hrd,e,bad,dn,eC3]
 obtain ⟨tl,htl⟩:∃ tl,tl=args.drop 1:=⟨_,rfl⟩
 have hd:tl.length < 2 ^ 36:=by rw [htl]; simp; omega
 have e1:args.length - 1=tl.length:=by rw [htl]; simp
 have e2:List.take tl.length (List.map li args).tail=List.map li tl:=by rw [htl,<-List.drop_one,<-List.map_drop,List.take_of_length_le (by simp)]
 have hr:rdD args=⟨tl,decide (args[0]=1)⟩:=by unfold rdD; rw [hg,if_neg (by omega),htl]
 have he:eC (a2n args 0).2=eC (a01 tl):=by
  unfold a2n chk
  rw [if_neg (by omega),hg,if_neg (by omega)]
  simp only [Nat.zero_add,<-htl]
  split
  ·rename_i hv; rw [(a8j tl).2 hv]; rfl
  ·rfl
 rw [hr,he]
 simp (disch:=omega) [go_sem,a39,hl,z1,z2]
 refine a0b ?_
 simp (disch:=omega) [go_sem,hl]
 simp only [e1,e2]
 refine a47 (e24 tl (by omega)) rfl (by simp (disch:=omega) [go_sem]) (by simp) [18] (by simp) (by simp (disch:=omega) [go_sem]) ?_
 simp (disch:=omega) [go_sem,hl]
 refine a0d (by decide) fun s2 hs hep=> ?_
 simp (disch:=omega) [go_sem,hs,hep]
 refine a0b ?_
 simp (disch:=omega) [go_sem,hs,hep]
 refine a0m (a62 tl (decide (args[0]=1)) (by omega)) rfl rfl (by simp) [26] (by simp) (by simp (disch:=omega) [go_sem,hs]) ?_
 simp (disch:=omega) [go_sem,hs,hep]
 refine a0d (by decide) fun s3 hs3 hep3=> ?_
 simp (disch:=omega) [go_sem,hs3,hep3,hs,hep,c4g]
theorem d23 (g:Gr) (hn:g.nodes.length < 2 ^ 40):ACalls pg G a7n [d1i g] (a6t (g.nodes.map (·.ins))):=by
 have key:ACalls pg G a7n [d1i g] (.own 1 g.nodes.length ((g.nodes.map (·.ins)).map slI)):=by
  refine b0v rfl ?_
  simp (disch:=omega) [go_sem,a7v]
  refine a0u Nat (fun j st=>j<=g.nodes.length/\st.s 1= .var [slN g.nodes,li g.out]/\st.s 3= .own 1 j (((g.nodes.take j).map (·.ins)).map slI)/\st.s 4=li j) (fun j=>g.nodes.length - j) 0 ⟨by omega,by simp (disch:=omega) [go_sem]⟩ ?_
  rintro j st K ⟨hj,h⟩ hK
  by_cases c:j < g.nodes.length
  ·have e2:((g.nodes.take (j+1)).map (·.ins)).map slI=((g.nodes.take j).map (·.ins)).map slI++[slI g.nodes[j].ins]:=by
    rw [List.take_succ_eq_append_getElem c,List.map_append,List.map_append]; rfl
   have ht:(((g.nodes.take j).map (·.ins)).map slI).take j=((g.nodes.take j).map (·.ins)).map slI:=List.take_of_length_le (by simp; omega)
   generalize hv:((g.nodes.take j).map (·.ins)).map slI=v at *
   simp (disch:=omega) [go_sem,a4x,h,c,ht]
   refine hK (j+1) _ ⟨by omega,?_⟩ (by omega)
   rw [e2]
   simp (disch:=omega) [go_sem,h,ht]
  ·have:j=g.nodes.length:=by omega
   subst this
   rw [List.take_length] at h
   generalize hv:(g.nodes.map (·.ins)).map slI=v at *
   have ht:v.take g.nodes.length=v:=List.take_of_length_le (by rw [<-hv]; simp)
   simp (disch:=omega) [go_sem,a4x,h,ht]
   rw [<-hv,List.map_map]; rfl
 have hz:a2z ((g.nodes.map (·.ins)).map slI)=(g.nodes.map (·.ins)).map slI:=by simp [go_sem]
 exact key.shown (by simp only [Ideal.frz,hz,a6t,List.length_map])
end
end Go.Ideal.Tryz
end
section
namespace Go.Ideal
def b7j:List (List Nat)->List Nat->List Nat
 | [],acc=>acc
 | a::rest,acc=>b7j rest (acc++[a.foldl (fun m k=>m||| 2 ^ k||| acc.getD k 0) 0])
def d4t (aft:List (List Nat)) (fps:List (List Nat×List Nat)):Bool:=
 let ms:=b7j aft []
 ((List.range aft.length).all fun j=>(aft.getD j []).all fun k=>decide (k < j))&&
  (List.range fps.length).all fun j=>(List.range j).all fun i=>(ms.getD j 0).testBit i||d10 (fps.getD i ([],[])) (fps.getD j ([],[]))
theorem c56 {acc:List Nat} {i:Nat}:∀ {a:List Nat} {m:Nat},(a.foldl (fun m k=>m||| 2 ^ k||| acc.getD k 0) m).testBit i=(m.testBit i||a.any fun k=>decide (k=i)||(acc.getD k 0).testBit i)
 | [],m=>by simp
 | k::a,m=>by
  rw [List.foldl_cons,c56,List.any_cons,Nat.testBit_or,Nat.testBit_or,Nat.testBit_two_pow]
  simp only [Bool.or_assoc]
theorem c1v:∀ {rest:List (List Nat)} {A:List (List Nat)} {M:List Nat},A.length=M.length->(∀ j i,(M.getD j 0).testBit i=(A.getD j []).contains i)->
  (a9t rest A).length=(b7j rest M).length/\∀ j i,((b7j rest M).getD j 0).testBit i=((a9t rest A).getD j []).contains i
 | [],A,M,hl,h=>⟨hl,h⟩
 | a::rest,A,M,hl,h=>by
  rw [a9t,b7j]
  refine c1v (by simp [hl]) (fun j i=> ?_)
  rcases Nat.lt_trichotomy j A.length with hj | hj | hj
  ·have h1:=h j i
   simp only [List.getD_eq_getElem?_getD] at h1 ⊢
   rw [List.getElem?_append_left hj,List.getElem?_append_left (by omega)]
   exact h1
  ·have e1:(A++[a++a.flatMap fun k=>A.getD k []]).getD j []=a++a.flatMap fun k=>A.getD k []:=by
    subst hj
    simp [List.getD_eq_getElem?_getD]
   have e2:(M++[a.foldl (fun m k=>m||| 2 ^ k||| M.getD k 0) 0]).getD j 0=a.foldl (fun m k=>m||| 2 ^ k||| M.getD k 0) 0:=by
    rw [hj,hl]
    simp [List.getD_eq_getElem?_getD]
   rw [e1,e2,c56,Nat.zero_testBit,Bool.false_or]
   rw [Bool.eq_iff_iff,List.any_eq_true]
   simp only [Bool.or_eq_true,decide_eq_true_eq,List.contains_iff_mem,List.mem_append,List.mem_flatMap]
   constructor
   ·rintro ⟨k,hk,h2 | h2⟩
    ·left; rw [<-h2]; exact hk
    ·right; exact ⟨k,hk,by rw [h k i] at h2; simpa using h2⟩
   ·rintro (h2 | ⟨k,hk,h2⟩)
    ·exact ⟨i,h2,.inl rfl⟩
    ·exact ⟨k,hk,.inr (by rw [h k i]; simpa using h2)⟩
  ·simp only [List.getD_eq_getElem?_getD]
   rw [List.getElem?_eq_none (by simp; omega),List.getElem?_eq_none (by simp; omega)]
   simp
theorem b4t:∀ {rest A:List (List Nat)},(∀ j,j < A.length->(a9t rest A).getD j []=A.getD j [])/\(a9t rest A).length=A.length+rest.length
 | [],A=>⟨fun j _=>rfl,rfl⟩
 | a::rest,A=>by
  obtain ⟨h1,h2⟩:=b4t (rest:=rest) (A:=A++[a++a.flatMap fun k=>A.getD k []])
  rw [a9t]
  refine ⟨fun j hj=> ?_,by rw [h2]; simp; omega⟩
  rw [h1 j (by simp; omega)]
  simp only [List.getD_eq_getElem?_getD]
  rw [List.getElem?_append_left hj]
theorem c1u:∀ {rest A:List (List Nat)} {j:Nat},j < rest.length->(a9t rest A).getD (A.length+j) []=rest.getD j []++(rest.getD j []).flatMap fun k=>if k < A.length+j then (a9t rest A).getD k [] else []
 | a::rest,A,0,hj=>by
  have hp:=(b4t (rest:=rest) (A:=A++[a++a.flatMap fun k=>A.getD k []])).1
  rw [a9t,Nat.add_zero,hp A.length (by simp)]
  have e1:(A++[a++a.flatMap fun k=>A.getD k []]).getD A.length []=a++a.flatMap fun k=>A.getD k []:=by simp [List.getD_eq_getElem?_getD]
  rw [e1]
  have e2:(a::rest).getD 0 []=a:=rfl
  rw [e2]
  congr 2
  funext k
  by_cases hk:k < A.length
  ·rw [if_pos hk,hp k (by simp; omega)]
   simp only [List.getD_eq_getElem?_getD]
   rw [List.getElem?_append_left hk]
  ·rw [if_neg hk]
   simp only [List.getD_eq_getElem?_getD]
   rw [List.getElem?_eq_none (by omega)]; rfl
 | a::rest,A,j+1,hj=>by
  have:=c1u (rest:=rest) (A:=A++[a++a.flatMap fun k=>A.getD k []]) (j:=j) (by simpa using hj)
  rw [a9t]
  simp only [List.length_append,List.length_cons,List.length_nil] at this
  have e:A.length+(0+1)+j=A.length+(j+1):=by omega
  rw [e] at this
  rw [this]
  rfl
theorem a48 {aft:List (List Nat)} {fps:List (List Nat×List Nat)} (h:d4t aft fps=true):b5g aft fps=true:=by
 obtain ⟨hl,hm⟩:=c1v (rest:=aft) (A:=[]) (M:=[]) rfl (fun j i=>by simp)
 have hlen:=(b4t (rest:=aft) (A:=[])).2
 simp only [d4t,Bool.and_eq_true] at h
 simp only [b5g,d1n,Bool.and_eq_true]
 refine ⟨⟨by simp [hlen],?_⟩,?_⟩
 ·rw [List.all_eq_true]
  intro j hj
  rw [Bool.and_eq_true]
  refine ⟨List.all_eq_true.1 h.1 j hj,?_⟩
  have hjl:=List.mem_range.1 hj
  have ha:=c1u (rest:=aft) (A:=[]) hjl
  simp only [List.length_nil,Nat.zero_add] at ha
  rw [List.all_eq_true]
  intro k hk
  rw [ha] at hk
  rw [Bool.or_eq_true]
  rcases List.mem_append.1 hk with hk | hk
  ·left; simpa using hk
  ·right
   obtain ⟨m,hm1,hm2⟩:=List.mem_flatMap.1 hk
   rw [List.any_eq_true]
   refine ⟨m,hm1,?_⟩
   split at hm2
   ·simpa using hm2
   ·simp at hm2
 ·rw [List.all_eq_true]
  intro j hj
  rw [List.all_eq_true]
  intro i hi
  have:=List.all_eq_true.1 (List.all_eq_true.1 h.2 j hj) i hi
  rw [hm j i] at this
  exact this
end Go.Ideal
end
section
namespace Go.Ideal.Tryz
def c5a:List (List Nat):=[[],[],[0,1],[2],[3],[4],[5],[6],[6],[7,8,6],[9,6],[10,6],[6],[6],[12,13,6],[14,6],[15,6],[11,16,6],[6,17],[18,6],[19],[19],[20,21,19],[22,19],[23,19],[19],[19],[25,26,19],[27,19],[28,19],[24,29,19],[19,30],[31,19],[32],[32],[33,34,32],[35,32],[36,32],[32],[32],[38,39,32],[40,32],[41,32],[37,42,32],[32,43],[44,32],[45],[45],[46,47,45],[48,45],[49,45],[45],[45],[51,52,45],[53,45],[54,45],[50,55,45],[45,56],[57,45,0,1,2,3,4,5,6,7,8,9,10,11,12,13,14,15,16,17,18,19,20,21,22,23,24,25,26,27,28,29,30,31,32,33,34,35,36,37,38,39,40,41,42,43,44,45,46,47,48,49,50,51,52,53,54,55,56,57]]
@[go_sem] theorem f52 {xs:List Sp} {i:Nat} (h:i < xs.length):(fm eS xs)[i*4]? =some (li xs[i].a):=c7e (f:=eS) (k:=4) (j:=0) (fun _=>rfl) h (by omega)
@[go_sem] theorem f53 {xs:List Sp} {i:Nat} (h:i < xs.length):(fm eS xs)[i*4+1]? =some (li xs[i].b):=c7e (f:=eS) (k:=4) (fun _=>rfl) h (by omega)
@[go_sem] theorem f54 {xs:List Sp} {i:Nat} (h:i < xs.length):(fm eS xs)[i*4+2]? =some (li xs[i].off):=c7e (f:=eS) (k:=4) (fun _=>rfl) h (by omega)
@[go_sem] theorem f55 {xs:List Sp} {i:Nat} (h:i < xs.length):(fm eS xs)[i*4+3]? =some (li xs[i].len):=c7e (f:=eS) (k:=4) (fun _=>rfl) h (by omega)
def c7o (s x:Sp):Bool:=decide (1<=x.len)&&decide (x.a<=x.b)&&decide (s.a<=s.b)&&decide (x.a<=s.b)&&decide (s.a<=x.b)
theorem d3b {s x:Sp} {o off:Int}:(c7o s x=true/\o < off+s.len/\off < o+x.len)↔b3f s x o off:=by
 unfold c7o b3f
 simp only [Bool.and_eq_true,decide_eq_true_eq]
 constructor
 ·rintro ⟨⟨⟨⟨⟨h1,h2⟩,h3⟩,h4⟩,h5⟩,h6,h7⟩
  exact ⟨by omega,by omega,h7,h6⟩
 ·rintro ⟨h1,h2,h3,h4⟩
  exact ⟨⟨⟨⟨⟨by omega,by omega⟩,by omega⟩,by omega⟩,by omega⟩,h4,h3⟩
section
variable {G:GG} {bk:Nat->Nat×Nat} {Q:Exit->St->Prop} {st:St}
theorem b47 {l:List Sp} {os:List Int} {m off hv:Int} {i j:Nat} {st' s2:St} {b:Bool} (h1:∀ t,t < 136->s2.s t=st'.s t) (h2:st'.s 0=slS l/\st'.s 4=owI os/\st'.s 5=li m/\st'.s 6=li i/\st'.s 7=li off/\st'.s 8=li hv/\st'.s 9=li j/\st'.s 10=lb b):s2.s 0=slS l/\s2.s 4=owI os/\s2.s 5=li m/\s2.s 6=li i/\s2.s 7=li off/\s2.s 8=li hv/\s2.s 9=li j/\s2.s 10=lb b:=by
 obtain ⟨a0,a4,a5,a6,a7,a8,a9,a10⟩:=h2
 exact ⟨(h1 0 (by decide)).trans a0,(h1 4 (by decide)).trans a4,(h1 5 (by decide)).trans a5,(h1 6 (by decide)).trans a6,(h1 7 (by decide)).trans a7,(h1 8 (by decide)).trans a8,(h1 9 (by decide)).trans a9,(h1 10 (by decide)).trans a10⟩
theorem f12 {l:List Sp} {os:List Int} {m off hv:Int} {i j:Nat} {s x:Sp} (hi:i < l.length) (hj:j < l.length) (hl:l.length < 2 ^ 40) (hx:l[j]=x) (hs:l[i]=s)  (c1:¬ 1<=x.len)
  (h:st.s 0=slS l/\st.s 4=owI os/\st.s 5=li m/\st.s 6=li i/\st.s 7=li off/\st.s 8=li hv/\st.s 9=li j) (hex:∀ s2:St,s2.s 0=slS l/\s2.s 4=owI os/\s2.s 5=li m/\s2.s 6=li i/\s2.s 7=li off/\s2.s 8=li hv/\s2.s 9=li j/\s2.s 10=lb false->Q .normal s2):AW pg G 136 (.draw lodgeref17_Place_r12 c5a) Q st:=by
 refine a0b ?_
 simp (disch:=omega) [go_sem,h,hi,hj,hx,hs,c1]
 refine a0d (a48 (by kernel_rfl)) fun s2 hs2 hep=>hex s2 (b47 hs2 ?_)
 simp (disch:=omega) [go_sem,h,c1]
theorem f13 {l:List Sp} {os:List Int} {m off hv:Int} {i j:Nat} {s x:Sp} (hi:i < l.length) (hj:j < l.length) (hl:l.length < 2 ^ 40) (hx:l[j]=x) (hs:l[i]=s) (c1:1<=x.len) (c2:¬ x.a<=x.b)
  (h:st.s 0=slS l/\st.s 4=owI os/\st.s 5=li m/\st.s 6=li i/\st.s 7=li off/\st.s 8=li hv/\st.s 9=li j) (hex:∀ s2:St,s2.s 0=slS l/\s2.s 4=owI os/\s2.s 5=li m/\s2.s 6=li i/\s2.s 7=li off/\s2.s 8=li hv/\s2.s 9=li j/\s2.s 10=lb false->Q .normal s2):AW pg G 136 (.draw lodgeref17_Place_r12 c5a) Q st:=by
 refine a0b ?_
 simp (disch:=omega) [go_sem,h,hi,hj,hx,hs,c1,c2]
 refine a0d (a48 (by kernel_rfl)) fun s2 hs2 hep=>hex s2 (b47 hs2 ?_)
 simp (disch:=omega) [go_sem,h,c1,c2]
theorem f14 {l:List Sp} {os:List Int} {m off hv:Int} {i j:Nat} {s x:Sp} (hi:i < l.length) (hj:j < l.length) (hl:l.length < 2 ^ 40) (hx:l[j]=x) (hs:l[i]=s) (c1:1<=x.len) (c2:x.a<=x.b) (c3:¬ s.a<=s.b)
  (h:st.s 0=slS l/\st.s 4=owI os/\st.s 5=li m/\st.s 6=li i/\st.s 7=li off/\st.s 8=li hv/\st.s 9=li j) (hex:∀ s2:St,s2.s 0=slS l/\s2.s 4=owI os/\s2.s 5=li m/\s2.s 6=li i/\s2.s 7=li off/\s2.s 8=li hv/\s2.s 9=li j/\s2.s 10=lb false->Q .normal s2):AW pg G 136 (.draw lodgeref17_Place_r12 c5a) Q st:=by
 refine a0b ?_
 simp (disch:=omega) [go_sem,h,hi,hj,hx,hs,c1,c2,c3]
 refine a0d (a48 (by kernel_rfl)) fun s2 hs2 hep=>hex s2 (b47 hs2 ?_)
 simp (disch:=omega) [go_sem,h,c1,c2,c3]
theorem f15 {l:List Sp} {os:List Int} {m off hv:Int} {i j:Nat} {s x:Sp} (hi:i < l.length) (hj:j < l.length) (hl:l.length < 2 ^ 40) (hx:l[j]=x) (hs:l[i]=s) (c1:1<=x.len) (c2:x.a<=x.b) (c3:s.a<=s.b) (c4:¬ x.a<=s.b)
  (h:st.s 0=slS l/\st.s 4=owI os/\st.s 5=li m/\st.s 6=li i/\st.s 7=li off/\st.s 8=li hv/\st.s 9=li j) (hex:∀ s2:St,s2.s 0=slS l/\s2.s 4=owI os/\s2.s 5=li m/\s2.s 6=li i/\s2.s 7=li off/\s2.s 8=li hv/\s2.s 9=li j/\s2.s 10=lb false->Q .normal s2):AW pg G 136 (.draw lodgeref17_Place_r12 c5a) Q st:=by
 refine a0b ?_
 simp (disch:=omega) [go_sem,h,hi,hj,hx,hs,c1,c2,c3,c4]
 refine a0d (a48 (by kernel_rfl)) fun s2 hs2 hep=>hex s2 (b47 hs2 ?_)
 simp (disch:=omega) [go_sem,h,c1,c2,c3,c4]
theorem f16 {l:List Sp} {os:List Int} {m off hv:Int} {i j:Nat} {s x:Sp} (hi:i < l.length) (hj:j < l.length) (hl:l.length < 2 ^ 40) (hx:l[j]=x) (hs:l[i]=s) (c1:1<=x.len) (c2:x.a<=x.b) (c3:s.a<=s.b) (c4:x.a<=s.b) (c5:¬ s.a<=x.b)
  (h:st.s 0=slS l/\st.s 4=owI os/\st.s 5=li m/\st.s 6=li i/\st.s 7=li off/\st.s 8=li hv/\st.s 9=li j) (hex:∀ s2:St,s2.s 0=slS l/\s2.s 4=owI os/\s2.s 5=li m/\s2.s 6=li i/\s2.s 7=li off/\s2.s 8=li hv/\s2.s 9=li j/\s2.s 10=lb false->Q .normal s2):AW pg G 136 (.draw lodgeref17_Place_r12 c5a) Q st:=by
 refine a0b ?_
 simp (disch:=omega) [go_sem,h,hi,hj,hx,hs,c1,c2,c3,c4,c5]
 refine a0d (a48 (by kernel_rfl)) fun s2 hs2 hep=>hex s2 (b47 hs2 ?_)
 simp (disch:=omega) [go_sem,h,c1,c2,c3,c4,c5]
theorem f17 {l:List Sp} {os:List Int} {m off hv:Int} {i j:Nat} {s x:Sp} (hi:i < l.length) (hj:j < l.length) (hl:l.length < 2 ^ 40) (hx:l[j]=x) (hs:l[i]=s) (c1:1<=x.len) (c2:x.a<=x.b) (c3:s.a<=s.b) (c4:x.a<=s.b) (c5:s.a<=x.b)
  (h:st.s 0=slS l/\st.s 4=owI os/\st.s 5=li m/\st.s 6=li i/\st.s 7=li off/\st.s 8=li hv/\st.s 9=li j) (hex:∀ s2:St,s2.s 0=slS l/\s2.s 4=owI os/\s2.s 5=li m/\s2.s 6=li i/\s2.s 7=li off/\s2.s 8=li hv/\s2.s 9=li j/\s2.s 10=lb true->Q .normal s2):AW pg G 136 (.draw lodgeref17_Place_r12 c5a) Q st:=by
 refine a0b ?_
 simp (disch:=omega) [go_sem,h,hi,hj,hx,hs,c1,c2,c3,c4,c5]
 refine a0d (a48 (by kernel_rfl)) fun s2 hs2 hep=>hex s2 (b47 hs2 ?_)
 simp (disch:=omega) [go_sem,h,c1,c2,c3,c4,c5]
theorem d7a {l:List Sp} {os:List Int} {m off hv:Int} {i j:Nat} (hi:i < l.length) (hj:j < l.length) (hl:l.length < 2 ^ 40)
  (h:st.s 0=slS l/\st.s 4=owI os/\st.s 5=li m/\st.s 6=li i/\st.s 7=li off/\st.s 8=li hv/\st.s 9=li j)
  (hex:∀ s2:St,s2.s 0=slS l/\s2.s 4=owI os/\s2.s 5=li m/\s2.s 6=li i/\s2.s 7=li off/\s2.s 8=li hv/\s2.s 9=li j/\s2.s 10=lb (c7o l[i] l[j])->Q .normal s2):AW pg G 136 (.draw lodgeref17_Place_r12 c5a) Q st:=by
 unfold c7o at hex
 by_cases c1:1<=l[j].len
 ·by_cases c2:l[j].a<=l[j].b
  ·by_cases c3:l[i].a<=l[i].b
   ·by_cases c4:l[j].a<=l[i].b
    ·by_cases c5:l[i].a<=l[j].b
     ·exact f17 hi hj hl rfl rfl c1 c2 c3 c4 c5 h (by simpa only [c1,c2,c3,c4,c5,decide_true,Bool.and_true] using hex)
     ·exact f16 hi hj hl rfl rfl c1 c2 c3 c4 c5 h (by simpa only [c5,decide_false,Bool.and_false] using hex)
    ·exact f15 hi hj hl rfl rfl c1 c2 c3 c4 h (by simpa only [c4,decide_false,Bool.and_false,Bool.false_and] using hex)
   ·exact f14 hi hj hl rfl rfl c1 c2 c3 h (by simpa only [c3,decide_false,Bool.and_false,Bool.false_and] using hex)
  ·exact f13 hi hj hl rfl rfl c1 c2 h (by simpa only [c2,decide_false,Bool.and_false,Bool.false_and] using hex)
 ·exact f12 hi hj hl rfl rfl c1 h (by simpa only [c1,decide_false,Bool.and_false,Bool.false_and] using hex)
theorem e5a {l:List Sp} {os:List Int} {m off:Int} {i:Nat} (hi:i < l.length) (hl:l.length < 2 ^ 40) (hos:os.length=i) (hz:okZ ((l.take i).zip os)) (hs:l[i].len < 2 ^ 60) (hs1:1<=l[i].len) (hoff:0<=off/\off < 2 ^ 62)
  (h:st.s 0=slS l/\st.s 4=owI os/\st.s 5=li m/\st.s 6=li i/\st.s 7=li off/\st.s 8=li (-1)/\st.s 9=li 0)
  (hno:(∀ p∈(l.take i).zip os,¬ b3f l[i] p.1 p.2 off)->∀ s2:St,s2.s 0=slS l/\s2.s 4=owI os/\s2.s 5=li m/\s2.s 6=li i/\s2.s 7=li off/\s2.s 8=li (-1)->Q (.exit 4) s2)
  (hyes:(∃ p∈(l.take i).zip os,b3f l[i] p.1 p.2 off)->∀ (k:Int) (s2:St),0<=k->s2.s 0=slS l/\s2.s 4=owI os/\s2.s 5=li m/\s2.s 6=li i/\s2.s 7=li off/\s2.s 8=li k->Q (.exit 4) s2):AW pg G 136 (.loop a3g) Q st:=by
 have hzg:∀ j,j < i->∀ (h1:j < l.length) (h2:j < os.length),(l[j],os[j])∈(l.take i).zip os:=by
  intro j hj h1 h2
  have h3:j < ((l.take i).zip os).length:=by simp; omega
  have:=List.getElem_mem h3
  simpa using this
 refine a0u (Nat×Int) (fun p st=>p.1<=i/\((p.2= -1/\∀ j,j < p.1->∀ (h1:j < l.length) (h2:j < os.length),¬ b3f l[i] l[j] os[j] off)\/(0<=p.2/\∃ q∈(l.take i).zip os,b3f l[i] q.1 q.2 off))/\st.s 0=slS l/\st.s 4=owI os/\st.s 5=li m/\st.s 6=li i/\st.s 7=li off/\st.s 8=li p.2/\st.s 9=li p.1) (fun p=>i - p.1) (0,-1) ⟨by simp,.inl ⟨rfl,fun j hj=>by omega⟩,by simpa using h⟩ ?_
 clear h
 rintro ⟨j,hv⟩ st K ⟨hj,hc,h⟩ hK
 simp only at hj hc h
 by_cases c:j < i
 ·have c1:j < l.length:=by omega
  have c2:j < os.length:=by omega
  have hmem:=hzg j c c1 c2
  have hb:=hz _ hmem
  simp only at hb
  simp (disch:=omega) [go_sem,a3g,h,c]
  refine d7a (l:=l) (os:=os) (m:=m) (off:=off) (hv:=hv) (i:=i) (j:=j) hi c1 hl (by simp (disch:=omega) [go_sem,h,c]) (fun s2 h2=> ?_)
  have hcl:=d3b (s:=l[i]) (x:=l[j]) (o:=os[j]) (off:=off)
  generalize hx:l[j]=x at *
  generalize hsv:l[i]=s at *
  generalize hov:os[j]=o at *
  have skip:∀ (hn:¬ b3f s x o off) (s3:St),(s3.s 0=slS l/\s3.s 4=owI os/\s3.s 5=li m/\s3.s 6=li i/\s3.s 7=li off/\s3.s 8=li hv/\s3.s 9=li (j+1:Nat))->K s3:=by
   intro hn s3 h3
   refine hK (j+1,hv) _ ⟨by simp only; omega,?_,h3⟩ (by simp only; omega)
   rcases hc with ⟨e,hc⟩ | hc
   ·refine .inl ⟨e,fun k hk h1 h2=> ?_⟩
    simp only at hk
    rcases Nat.lt_or_ge k j with h4 | h4
    ·exact hc k h4 h1 h2
    ·obtain rfl:k=j:=by omega
     rw [hx,hov]; exact hn
   ·exact .inr hc
  cases hmb:c7o s x with
  | false=>
   rw [hmb] at h2
   simp (disch:=omega) [go_sem,h2]
   refine a0b ?_
   simp (disch:=omega) [go_sem,h2]
   refine a0d (a48 (by kernel_rfl)) fun s3 hs3 hep=> ?_
   have f:s3.s 0=slS l/\s3.s 4=owI os/\s3.s 5=li m/\s3.s 6=li i/\s3.s 7=li off/\s3.s 8=li hv/\s3.s 9=li j/\s3.s 114=lb false:=by
    refine ⟨?_,?_,?_,?_,?_,?_,?_,?_⟩<;>simp (disch:=omega) [go_sem,hs3,h2]
   clear hs3 hep
   simp (disch:=omega) [go_sem,f]
   exact skip (fun hh=>by have:=hcl.2 hh; rw [hmb] at this; simp at this) _ (by simp (disch:=omega) [go_sem,f])
  | true=>
   have hx1:1<=x.len:=by
    simp only [c7o,Bool.and_eq_true,decide_eq_true_eq] at hmb
    omega
   rw [hmb] at h2 hcl
   by_cases c5:o < off+s.len
   ·by_cases c6:off < o+x.len
    ·skip
     simp (disch:=omega) [go_sem,h2]
     refine a0b ?_
     simp (disch:=omega) [go_sem,h2,hi,c1,c2,hx,hsv,hov,c5,c6]
     refine a0d (a48 (by kernel_rfl)) fun s3 hs3 hep=> ?_
     have f:s3.s 0=slS l/\s3.s 4=owI os/\s3.s 5=li m/\s3.s 6=li i/\s3.s 7=li off/\s3.s 8=li hv/\s3.s 9=li j/\s3.s 114=lb true:=by
      refine ⟨?_,?_,?_,?_,?_,?_,?_,?_⟩<;>simp (disch:=omega) [go_sem,hs3,h2,hi,c1,c2,hx,hsv,hov,c5,c6]
     clear hs3 hep
     simp (disch:=omega) [go_sem,f]
     exact hK (j+1,(j:Int)) _ ⟨by simp only; omega,.inr ⟨by simp only; omega,_,hmem,hcl.1 ⟨rfl,c5,c6⟩⟩,by simp (disch:=omega) [go_sem,f]⟩ (by simp only; omega)
    ·skip
     simp (disch:=omega) [go_sem,h2]
     refine a0b ?_
     simp (disch:=omega) [go_sem,h2,hi,c1,c2,hx,hsv,hov,c5,c6]
     refine a0d (a48 (by kernel_rfl)) fun s3 hs3 hep=> ?_
     have f:s3.s 0=slS l/\s3.s 4=owI os/\s3.s 5=li m/\s3.s 6=li i/\s3.s 7=li off/\s3.s 8=li hv/\s3.s 9=li j/\s3.s 114=lb false:=by
      refine ⟨?_,?_,?_,?_,?_,?_,?_,?_⟩<;>simp (disch:=omega) [go_sem,hs3,h2,hi,c1,c2,hx,hsv,hov,c5,c6]
     clear hs3 hep
     simp (disch:=omega) [go_sem,f]
     exact skip (fun hh=>c6 (hcl.2 hh).2.2) _ (by simp (disch:=omega) [go_sem,f])
   ·skip
    simp (disch:=omega) [go_sem,h2]
    refine a0b ?_
    simp (disch:=omega) [go_sem,h2,hi,c1,c2,hx,hsv,hov,c5]
    refine a0d (a48 (by kernel_rfl)) fun s3 hs3 hep=> ?_
    have f:s3.s 0=slS l/\s3.s 4=owI os/\s3.s 5=li m/\s3.s 6=li i/\s3.s 7=li off/\s3.s 8=li hv/\s3.s 9=li j/\s3.s 114=lb false:=by
     refine ⟨?_,?_,?_,?_,?_,?_,?_,?_⟩<;>simp (disch:=omega) [go_sem,hs3,h2,hi,c1,c2,hx,hsv,hov,c5]
    clear hs3 hep
    simp (disch:=omega) [go_sem,f]
    exact skip (fun hh=>c5 (hcl.2 hh).2.1) _ (by simp (disch:=omega) [go_sem,f])
 ·have:j=i:=by omega
  subst this
  simp (disch:=omega) [go_sem,a3g,h]
  rcases hc with ⟨rfl,hc⟩ | ⟨h0,hc⟩
  ·refine hno (fun p hp=> ?_) _ (by simp (disch:=omega) [go_sem,h])
   obtain ⟨k,hk,rfl⟩:=List.mem_iff_getElem.1 hp
   have hk2:k < j:=by simp at hk; omega
   simp only [List.getElem_zip,List.getElem_take]
   exact hc k hk2 (by omega) (by omega)
  ·exact hyes hc hv _ h0 (by simp (disch:=omega) [go_sem,h])
theorem e5b {l:List Sp} {os:List Int} {m:Int} {i:Nat} (hi:i < l.length) (hl:l.length < 2 ^ 40) (hos:os.length=i) (hz:okZ ((l.take i).zip os)) (hs:l[i].len < 2 ^ 60) (hs1:1<=l[i].len)
  (h:st.s 0=slS l/\st.s 4=owI os/\st.s 5=li m/\st.s 6=li i/\st.s 7=li 0)
  (hex:∀ s2:St,s2.s 0=slS l/\s2.s 4=owI os/\s2.s 5=li m/\s2.s 6=li i/\s2.s 7=li (a4l l[i] (l.take i) os b6g 0)->Q (.exit 2) s2):AW pg G 136 (.loop a3h) Q st:=by
 obtain ⟨r1,r2,r3,r4⟩:=b42 (n:=b6g) (off:=0) hs hz (by simp [b6g]) (by omega) (by omega) (fun m h1 h2=>by omega)
 generalize a4l l[i] (l.take i) os b6g 0=r at *
 refine a0u Int (fun off st=>(0<=off/\off<=r)/\off % 4=0/\st.s 0=slS l/\st.s 4=owI os/\st.s 5=li m/\st.s 6=li i/\st.s 7=li off) (fun off=>(r - off).toNat) 0 ⟨by omega,by omega,h⟩ ?_
 clear h
 rintro off st K ⟨ho,h4,h⟩ hK
 simp (disch:=omega) [go_sem,a3h,h,hi,hs1]
 refine e5a (l:=l) (os:=os) (m:=m) (off:=off) (i:=i) hi hl hos hz hs hs1 (by omega) (by simp (disch:=omega) [go_sem,h]) (fun hno s2 h2=> ?_) (fun hyes k s2 hk h2=> ?_)
 ·have:off=r:=by
   rcases Int.lt_trichotomy off r with h5 | h5 | h5
   ·obtain ⟨p,hp,hc⟩:=r4 off ho.1 h5 h4
    exact absurd hc (hno p hp)
   ·exact h5
   ·omega
  subst this
  simp (disch:=omega) [go_sem,h2]
  exact hex _ (by simp (disch:=omega) [go_sem,h2])
 ·have hne:off≠r:=by
   rintro rfl
   obtain ⟨p,hp,hc⟩:=hyes
   exact r3 p hp hc
  have hk':¬ k < 0:=by omega
  simp (disch:=omega) [go_sem,h2,hk']
  exact hK (off+4) _ ⟨by omega,by omega,by simp (disch:=omega) [go_sem,h2]⟩ (by omega)
theorem d29 {s:Sp} {ds:List Sp} {os:List Int} {B:Int} (hB:0<=B) (hs:s.len < 2 ^ 60) (hz:okZ (ds.zip os)) (hb:∀ p∈ds.zip os,p.2+p.1.len<=B):0<=a4l s ds os b6g 0/\a4l s ds os b6g 0<=B+3:=by
 obtain ⟨r1,r2,r3,r4⟩:=b42 (n:=b6g) (off:=0) hs hz (by simp [b6g]) (by omega) (by omega) (fun m h1 h2=>by omega)
 refine ⟨r1.1,?_⟩
 by_cases c:a4l s ds os b6g 0 < 4
 ·omega
 ·obtain ⟨p,hp,c1,c2,c3,c4⟩:=r4 (a4l s ds os b6g 0 - 4) (by omega) (by omega) (by omega)
  have:=hb p hp
  omega
theorem d3q (l:List Sp) (hl:l.length < 2 ^ 20) (hx:∀ x∈l,x.len < 2 ^ 30):ACalls pg G b25 [slS l] (.tup [owI (a5k l).1,li (a5k l).2]):=by
 refine b0u rfl ?_
 simp (disch:=omega) [go_sem,a7u]
 refine a0u (Nat×List Int×Int) (fun p st=>p.1<=l.length/\p.2.1.length=p.1/\(∀ o∈p.2.1,0<=o/\o<=p.1*(2 ^ 30+4))/\0<=p.2.2/\d0c b6g (l.take p.1) p.2.1 p.2.2 (l.drop p.1)=a5k l/\st.s 0=slS l/\st.s 4=owI p.2.1/\st.s 5=li p.2.2/\st.s 6=li p.1) (fun p=>l.length - p.1) (0,[],0) ⟨by simp,rfl,by simp,by simp,by simp [a5k],by simp (disch:=omega) [go_sem]⟩ ?_
 rintro ⟨i,os,m⟩ st K ⟨hi,hos,ho,hm0,hm,h⟩ hK
 simp only at hi hos ho hm0 hm h
 by_cases c:i < l.length
 ·have hx1:=hx _ (List.getElem_mem c)
  rw [List.drop_eq_getElem_cons c,d0c,<-List.take_succ_eq_append_getElem c] at hm
  by_cases c1:l[i].len < 1
  ·have hn:¬ (1:Int)<=l[i].len:=by omega
   rw [if_pos c1] at hm
   have e1:(if l[i].len < 0 then (0:Int) else l[i].len)=0:=by split<;>omega
   have e2:(if m < 0 then (0:Int) else m)=m:=by rw [if_neg (by omega)]
   simp (disch:=omega) [go_sem,a3i,h,c]
   refine a0u Nat (fun _ st=>st.s 0=slS l/\st.s 4=owI os/\st.s 5=li m/\st.s 6=li i/\st.s 7=li 0) (fun _=>0) 0 (by simp (disch:=omega) [go_sem,h]) ?_
   clear h
   rintro _ st K2 h hK2
   simp (disch:=omega) [go_sem,a3h,h,c,hn,e1,e2]
   have hto:(List.map li os).take i=List.map li os:=List.take_of_length_le (by simp; omega)
   refine hK (i+1,os++[0],m) _ ⟨by simp only; omega,by simp [hos],?_,hm0,hm,by simp (disch:=omega) [go_sem,h,hto]⟩ (by simp only; omega)
   intro o ho2
   rcases List.mem_append.1 ho2 with h2 | h2
   ·have:=ho o h2; simp only; omega
   ·simp at h2; subst h2; simp only; omega
  ·rw [if_neg c1] at hm
   have hz:okZ ((l.take i).zip os):=by
    intro p hp
    have h1:=ho p.2 (List.of_mem_zip hp).2
    have h2:=hx p.1 (List.mem_of_mem_take (List.of_mem_zip hp).1)
    have h3:(i:Int)*(2 ^ 30+4)<=2 ^ 20*(2 ^ 30+4):=by omega
    exact ⟨h1.1,by omega,by omega⟩
   have hle:=d29 (s:=l[i]) (ds:=l.take i) (os:=os) (B:=i*(2 ^ 30+4)+2 ^ 30) (by omega) (by omega) hz (fun p hp=>by
    have h1:=ho p.2 (List.of_mem_zip hp).2
    have h2:=hx p.1 (List.mem_of_mem_take (List.of_mem_zip hp).1)
    omega)
   have he:b8s (a4l l[i] (l.take i) os b6g 0) l[i].len=a4l l[i] (l.take i) os b6g 0+l[i].len:=by unfold b8s; rw [if_neg (by omega)]
   rw [he] at hm
   simp (disch:=omega) [go_sem,a3i,h,c]
   refine e5b (l:=l) (os:=os) (m:=m) (i:=i) c (by omega) hos hz (by omega) (by omega) (by simp (disch:=omega) [go_sem,h]) (fun s2 h2=> ?_)
   generalize a4l l[i] (l.take i) os b6g 0=off at *
   have e1:(if l[i].len < 0 then (0:Int) else l[i].len)=l[i].len:=by rw [if_neg (by omega)]
   have hto:(List.map li os).take i=List.map li os:=List.take_of_length_le (by simp; omega)
   simp (disch:=omega) [go_sem,h2,c,e1,hos,hto]
   refine hK (i+1,os++[off],max m (off+l[i].len)) _ ⟨by simp only; omega,by simp [hos],?_,by simp only; omega,hm,by simp (disch:=omega) [go_sem,h2,hos,b0q,e1,hto]⟩ (by simp only; omega)
   intro o ho2
   rcases List.mem_append.1 ho2 with h3 | h3
   ·have:=ho o h3; simp only; omega
   ·simp at h3; subst h3; simp only; omega
 ·have:i=l.length:=by omega
  subst this
  rw [List.drop_length,d0c] at hm
  simp (disch:=omega) [go_sem,a3i,h,<-hm]
end
end Go.Ideal.Tryz
end
section
namespace Go.Ideal.Tryz
attribute [local go_sem] eD
def eRl (l:Lk):List AV:=[slI l.ord,.own 2 l.descs.length (fm eD l.descs),slI l.hin.shape,lb l.hin.wide,.own 2 l.ws.length (fm eD l.ws)]
structure RelK (l:Lk) (hv:List Bool):Prop where
 len:hv.length=l.ws.length
 get:∀ k:Nat,k < 8->c2o l.keys l.vals k=if hv[k]! =true then some l.ws[k]! else none
theorem c2p:∀ {keys:List Int} {vals:List Ds} {n j:Int} {x:Ds},c2o (b6k keys vals n x).1 (b6k keys vals n x).2 j=if j=n then some x else c2o keys vals j
 | [],vals,n,j,x=>by
  simp only [b6k,c2o]
  by_cases h:n=j
  ·rw [if_pos h,if_pos h.symm]
  ·rw [if_neg h,if_neg (fun e=>h e.symm)]
 | k::ks,[],n,j,x=>by
  simp only [b6k,c2o]
  by_cases h:n=j
  ·rw [if_pos h,if_pos h.symm]
  ·rw [if_neg h,if_neg (fun e=>h e.symm)]
 | k::ks,v::vs,n,j,x=>by
  simp only [b6k]
  by_cases h:k=n
  ·rw [if_pos h]
   simp only [c2o]
   by_cases h2:k=j
   ·rw [if_pos h2,if_pos (by omega)]
   ·rw [if_neg h2,if_neg (by omega),if_neg h2]
  ·rw [if_neg h]
   simp only [c2o]
   by_cases h2:k=j
   ·rw [if_pos h2,if_neg (by omega),if_pos h2]
   ·rw [if_neg h2,if_neg h2]
    exact c2p
theorem c7d {args:List Int} (h:0 < args.length):a2n (args.drop 1) 0=a2n args 1:=by
 unfold a2n
 have e1:(args.drop 1).length=args.length - 1:=by simp
 have e2:(args.drop 1)[0]! =args[1]! :=by simp
 have e3:(args.drop 1).drop (0+1)=args.drop (1+1):=by rw [List.drop_drop]
 rw [e1,e2,e3]
 by_cases c:args.length<=1
 ·rw [if_pos (by omega),if_pos c]
 ·rw [if_neg (by omega),if_neg c]
def c2l (hv:List Bool) (k:Nat):List Bool:=hv++List.replicate (k+1 - hv.length) false
theorem d66 {l:Lk} {hv:List Bool} {k:Nat} {d:Ds} (h:RelK l hv) (hk:k < 8):RelK { l with keys:=(b6k l.keys l.vals k d).1,vals:=(b6k l.keys l.vals k d).2,ws:=(a6o l.ws k).set k d } ((c2l hv k).set k true):=by
 have hl:=h.len
 have e1:k < (c2l hv k).length:=by simp [c2l]; omega
 have e2:k < (a6o l.ws k).length:=by simp [a6o]; omega
 refine ⟨by simp [c2l,a6o,hl],fun j hj=> ?_⟩
 simp only
 rw [c2p]
 by_cases c:(j:Int)=k
 ·obtain rfl:j=k:=by omega
  rw [if_pos rfl,get!_set e1,get!_set e2]
  simp
 ·have hjk:j≠k:=by omega
  rw [if_neg c,get!_set e1,get!_set e2]
  simp only [if_neg hjk]
  rw [h.get j hj]
  have e3:(c2l hv k)[j]! =hv[j]! :=by
   unfold c2l
   by_cases c2:j < hv.length
   ·simp [c2,List.getElem?_append_left]
   ·rw [getElem!_def,getElem!_def,List.getElem?_append_right (by omega),List.getElem?_eq_none (by omega:hv.length<=j)]
    by_cases c3:j - hv.length < k+1 - hv.length
    ·rw [List.getElem?_replicate,if_pos c3]; rfl
    ·rw [List.getElem?_replicate,if_neg c3]
  rw [e3]
  by_cases c2:j < hv.length
  ·have e4:(a6o l.ws k)[j]! =l.ws[j]! :=by
    unfold a6o
    have:j < l.ws.length:=by omega
    simp [this,List.getElem?_append_left]
   rw [e4]
  ·have:hv[j]! =false:=by simp [c2]
   rw [this]; simp
section
variable {G:GG} {bk:Nat->Nat×Nat} {Q:Exit->St->Prop} {st:St}
theorem e4z {ns:List Nd} {out:Int} {l:Lk} {hv:List Bool} {n:Nd} {i k:Int} {w:Nat} {d:Ds} {c:Int} (hw:w < 8) (hwl:l.ws.length<=8) (hl:hv.length=l.ws.length)
  (h:st.s 1= .var [slN ns,li out]/\st.s 2=zSn/\st.s 3= .var [li 0,lb false,li 0]/\st.s 4=slI l.ord/\st.s 6= .var (eRl l)/\st.s 7=lb l.input/\st.s 8=owB hv/\st.s 9=li i/\st.s 10=li k/\st.s 11= .var (a5q n)/\st.s 12= .var (eD d)/\st.s 13=li c/\st.s 14=li w)
  (hex:∀ s:St,s.s 1= .var [slN ns,li out]/\s.s 2=zSn/\s.s 3= .var [li 0,lb false,li 0]/\s.s 4=slI l.ord/\s.s 6= .var (eRl { l with ws:=a6o l.ws w })/\s.s 7=lb l.input/\s.s 8=owB (c2l hv w)/\s.s 9=li i/\s.s 10=li k/\s.s 11= .var (a5q n)/\s.s 12= .var (eD d)/\s.s 13=li c/\s.s 14=li w->Q (.exit 4) s):AW pg G 235 (.loop a4r) Q st:=by
 refine a0u Nat (fun j st=>j<=w+1 - l.ws.length/\st.s 1= .var [slN ns,li out]/\st.s 2=zSn/\st.s 3= .var [li 0,lb false,li 0]/\st.s 4=slI l.ord/\st.s 6= .var (eRl { l with ws:=l.ws++List.replicate j dn })/\st.s 7=lb l.input/\st.s 8=owB (hv++List.replicate j false)/\st.s 9=li i/\st.s 10=li k/\st.s 11= .var (a5q n)/\st.s 12= .var (eD d)/\st.s 13=li c/\st.s 14=li w) (fun j=>w+1 - l.ws.length - j) 0 ⟨by omega,by simpa using h⟩ ?_
 clear h
 rintro j st K ⟨hj,h⟩ hK
 simp only [eRl] at h
 have hlen:(l.ws++List.replicate j dn).length=l.ws.length+j:=by simp
 have hlen2:(hv++List.replicate j false).length=l.ws.length+j:=by simp [hl]
 have e1:l.ws++List.replicate (j+1) dn=(l.ws++List.replicate j dn)++[dn]:=by rw [List.replicate_succ',List.append_assoc]
 have e2:hv++List.replicate (j+1) false=(hv++List.replicate j false)++[false]:=by rw [List.replicate_succ',List.append_assoc]
 by_cases c1:l.ws.length+j<=w
 ·have ht:(fm eD (l.ws++List.replicate j dn)).take ((l.ws.length+j)*2)=fm eD (l.ws++List.replicate j dn):=by rw [<-hlen]; exact d50
  generalize hwv:l.ws++List.replicate j dn=wv at *
  generalize hvv:hv++List.replicate j false=vv at *
  have c2:((l.ws.length+j:Nat):Int)<=w:=by omega
  have ht2:(List.map lb vv).take (l.ws.length+j)=List.map lb vv:=List.take_of_length_le (by simp; omega)
  simp (disch:=omega) [go_sem,a4r,h,hlen,hlen2,c2,ht,ht2]
  refine hK (j+1) _ ⟨by omega,?_⟩ (by omega)
  rw [e1,e2]
  simp (disch:=omega) [go_sem,h,hlen,hlen2,ht,ht2,eRl,b17,a9v,dn]
 ·have c2:¬ ((l.ws.length+j:Nat):Int)<=w:=by omega
  have e3:a6o l.ws w=l.ws++List.replicate j dn:=by unfold a6o; congr 2; omega
  have e4:c2l hv w=hv++List.replicate j false:=by unfold c2l; congr 2; omega
  generalize hwv:l.ws++List.replicate j dn=wv at *
  generalize hvv:hv++List.replicate j false=vv at *
  simp (disch:=omega) [go_sem,a4r,h,hlen,c2]
  refine hex _ ?_
  rw [e3,e4]
  simp (disch:=omega) [go_sem,h,eRl]
theorem e40 {ns:List Nd} {out:Int} {l:Lk} {hv:List Bool} {n:Nd} {i k:Int} {d:Ds} {c:Int} (hi:∀ k∈n.ins,0<=k/\k < l.descs.length) (hl:n.ins.length < 2 ^ 36)
  (h:st.s 1= .var [slN ns,li out]/\st.s 2=zSn/\st.s 3= .var [li 0,lb false,li 0]/\st.s 4=slI l.ord/\st.s 6= .var (eRl l)/\st.s 7=lb l.input/\st.s 8=owB hv/\st.s 9=li i/\st.s 10=li k/\st.s 11= .var (a5q n)/\st.s 12= .var (eD d)/\st.s 13=li c/\st.s 15= .own 2 0 []/\st.s 16=li 0)
  (hex:∀ s:St,s.s 1= .var [slN ns,li out]/\s.s 2=zSn/\s.s 3= .var [li 0,lb false,li 0]/\s.s 4=slI l.ord/\s.s 6= .var (eRl l)/\s.s 7=lb l.input/\s.s 8=owB hv/\s.s 9=li i/\s.s 10=li k/\s.s 11= .var (a5q n)/\s.s 12= .var (eD d)/\s.s 13=li c/\s.s 15= .own 2 n.ins.length (fm eD (lkD l n.ins))->Q (.exit 6) s):AW pg G 235 (.loop a4s) Q st:=by
 refine a0u Nat (fun j st=>j<=n.ins.length/\st.s 1= .var [slN ns,li out]/\st.s 2=zSn/\st.s 3= .var [li 0,lb false,li 0]/\st.s 4=slI l.ord/\st.s 6= .var (eRl l)/\st.s 7=lb l.input/\st.s 8=owB hv/\st.s 9=li i/\st.s 10=li k/\st.s 11= .var (a5q n)/\st.s 12= .var (eD d)/\st.s 13=li c/\st.s 15= .own 2 j (fm eD (lkD l (n.ins.take j)))/\st.s 16=li j) (fun j=>n.ins.length - j) 0 ⟨by omega,by simpa [fm,lkD] using h⟩ ?_
 clear h
 rintro j st K ⟨hj,h⟩ hK
 simp only [eRl,a5q] at h
 by_cases c1:j < n.ins.length
 ·have hk:=hi _ (List.getElem_mem c1)
  obtain ⟨kk,hkk⟩:∃ kk:Nat,n.ins[j]=kk:=⟨n.ins[j].toNat,by omega⟩
  rw [hkk] at hk
  have hk2:kk < l.descs.length:=by omega
  have ht:(fm eD (lkD l (n.ins.take j))).take (j*2)=fm eD (lkD l (n.ins.take j)):=b6j (fun _=>rfl) (by simp; omega)
  simp (disch:=omega) [go_sem,a4s,h,c1]
  refine a0b ?_
  simp (disch:=omega) [go_sem,h,c1,hkk,hk2,ht]
  refine a0d (by decide) fun s2 hs2 hep=> ?_
  simp (disch:=omega) [go_sem,hs2,hep,h]
  have e:l.descs[((kk:Int)).toNat]! =l.descs[kk]:=by simp [hk2]
  refine hK (j+1) _ ⟨by omega,?_⟩ (by omega)
  have e2:lkD l (n.ins.take (j+1))=lkD l (n.ins.take j)++[l.descs[kk]]:=by
   rw [List.take_succ_eq_append_getElem c1,lkD,List.map_append,List.map_cons,List.map_nil,hkk,e]; rfl
  rw [e2,b17,a9v]
  simp (disch:=omega) [go_sem,hs2,hep,h,eRl,a5q,ht]
 ·have:j=n.ins.length:=by omega
  subst this
  simp (disch:=omega) [go_sem,a4s,h]
  refine hex _ ?_
  simp (disch:=omega) [go_sem,h,eRl,a5q]
theorem e1u {e:Er} (h:e.snt) (hn:e.isNil=false):eC e≠0:=by
 rcases h with rfl | ⟨g,hg,rfl⟩
 ·cases hn
 ·exact a69 g hg
theorem e4y {ns:List Nd} {out:Int} {l:Lk} {hv:List Bool} {n:Nd} {i k:Int} (hf:l.fin) (hn:n.sh) (hr:RelK l hv) (hop:n.op=1) (h:st.s 1= .var [slN ns,li out]/\st.s 2=zSn/\st.s 3= .var [li 0,lb false,li 0]/\st.s 4=slI l.ord/\st.s 6= .var (eRl l)/\st.s 7=lb l.input/\st.s 8=owB hv/\st.s 9=li i/\st.s 10=li k/\st.s 11= .var (a5q n)/\st.s 12= .var (eD dn)/\st.s 13=li 0) (hok:∀ (d:Ds) (l2:Lk) (hv2:List Bool) (s:St),a12 l n=((d,.nil),l2)->RelK l2 hv2->s.s 1= .var [slN ns,li out]/\s.s 2=zSn/\s.s 3= .var [li 0,lb false,li 0]/\s.s 4=slI l.ord/\s.s 6= .var (eRl l2)/\s.s 7=lb l2.input/\s.s 8=owB hv2/\s.s 9=li i/\s.s 10=li k/\s.s 12= .var (eD d)/\s.s 13=li 0->Q .normal s) (hbad:∀ (e:Er) (s:St),(a12 l n).1.2=e->e.isNil=false->s.s 1= .var [slN ns,li out]/\s.s 2=zSn/\s.s 3= .var [li 0,lb false,li 0]/\s.s 10=li k/\s.s 13=li (eC e)->Q .normal s):AW pg G 235 b9m Q st:=by
 simp only [eRl,a5q] at h
 have hn2:=hn.args
 have hnd:a12 l n=if 0 < n.ins.length then (bad 6,l) else inR l n.args:=by unfold a12; rw [hop]; simp [a0t]
 by_cases c1:n.ins.length=0
 ·rw [if_neg (by omega)] at hnd
  by_cases c2:n.args.length=0
  ·have e0:n.args=[]:=List.eq_nil_of_length_eq_zero c2
   simp (disch:=omega) [go_sem,b9m,h,hop,c1,c2]
   refine hbad (.s 6) _ ?_ rfl (by simp (disch:=omega) [go_sem,h,eC6])
   rw [hnd,e0]; rfl
  ·have hd:=c6j (G:=G) n.args (by omega) hn2
   have hsn:=a8l (args:=n.args) (a:=0)
   have hdd:=d43 (args:=n.args) (by omega)
   simp (disch:=omega) [go_sem,b9m,h,hop,c1,c2]
   refine a0g hd (by simp [go_sem,a0p]) (by simp (disch:=omega) [go_sem]) ?_
   unfold inR at hnd
   generalize hrv:a2n n.args 0=r at *
   obtain ⟨d,e⟩:=r
   simp only at hnd hdd hsn
   cases he:e.isNil with
   | false=>
    rw [he] at hnd
    simp only [Bool.false_eq_true,if_false] at hnd
    have hz:=e1u hsn he
    simp (disch:=omega) [go_sem,h,hz]
    refine hbad e _ (by rw [hnd]) he (by simp (disch:=omega) [go_sem,h])
   | true=>
    obtain rfl:e= .nil:=a49.1 he
    rw [he] at hnd
    simp only [if_true] at hnd
    rw [hdd he,a7s]
    cases hin:l.input with
    | false=>
     rw [hin] at hnd
     simp only [Bool.false_eq_true,false_and,if_false] at hnd
     simp (disch:=omega) [go_sem,h,hin]
     refine hok d _ hv _ hnd ⟨hr.len,hr.get⟩ (by simp (disch:=omega) [go_sem,h,hin,eRl,a0f])
    | true=>
     rw [hin] at hnd
     simp only [true_and] at hnd
     have hsm:=b21 (G:=G) d l.hin (by rw [show d.shape=(a2n n.args 0).1.shape by rw [hrv]]; exact Nat.lt_trans (a8k hn2) (by omega))
     simp (disch:=omega) [go_sem,h,hin]
     refine a0g hsm rfl (by simp (disch:=omega) [go_sem]) ?_
     by_cases hq:d=l.hin
     ·rw [if_neg (by simp [hq])] at hnd
      simp (disch:=omega) [go_sem,h,hin,hq]
      refine hok d _ hv _ hnd ⟨hr.len,hr.get⟩ (by simp (disch:=omega) [go_sem,h,hin,eRl,a0f,hq])
     ·rw [if_pos (by simpa using hq)] at hnd
      simp (disch:=omega) [go_sem,h,hin,hq]
      refine hbad (.s 6) _ (by rw [hnd]; rfl) rfl (by simp (disch:=omega) [go_sem,h,eC6])
 ·rw [if_pos (by omega)] at hnd
  have c1':¬ (n.ins.length:Int)=0:=by omega
  have c1n:n.ins≠[]:=fun e=>c1 (by rw [e]; rfl)
  simp (disch:=omega) [go_sem,b9m,h,hop,c1',c1n]
  refine hbad (.s 6) _ (by rw [hnd]; rfl) rfl (by simp (disch:=omega) [go_sem,h,eC6])
theorem d0n {ns:List Nd} {out:Int} {l:Lk} {hv:List Bool} {n:Nd} {i k:Int} (hf:l.fin) (hn:n.sh) (hr:RelK l hv) (hop:n.op=2) (h:st.s 1= .var [slN ns,li out]/\st.s 2=zSn/\st.s 3= .var [li 0,lb false,li 0]/\st.s 4=slI l.ord/\st.s 6= .var (eRl l)/\st.s 7=lb l.input/\st.s 8=owB hv/\st.s 9=li i/\st.s 10=li k/\st.s 11= .var (a5q n)/\st.s 12= .var (eD dn)/\st.s 13=li 0) (hok:∀ (d:Ds) (l2:Lk) (hv2:List Bool) (s:St),a12 l n=((d,.nil),l2)->RelK l2 hv2->s.s 1= .var [slN ns,li out]/\s.s 2=zSn/\s.s 3= .var [li 0,lb false,li 0]/\s.s 4=slI l.ord/\s.s 6= .var (eRl l2)/\s.s 7=lb l2.input/\s.s 8=owB hv2/\s.s 9=li i/\s.s 10=li k/\s.s 12= .var (eD d)/\s.s 13=li 0->Q .normal s) (hbad:∀ (e:Er) (s:St),(a12 l n).1.2=e->e.isNil=false->s.s 1= .var [slN ns,li out]/\s.s 2=zSn/\s.s 3= .var [li 0,lb false,li 0]/\s.s 10=li k/\s.s 13=li (eC e)->Q .normal s):AW pg G 235 b9m Q st:=by
 simp only [eRl,a5q] at h
 have hnd:a12 l n=if 0 < n.ins.length then (bad 6,l) else if 0 < n.args.length then (bad 6,l) else if (a7m n.shape n.wide n.data).isNil=true then ((⟨n.shape,n.wide⟩,.nil),l) else ((dn,a7m n.shape n.wide n.data),l):=by unfold a12; rw [hop]; simp [a0t]
 by_cases c1:n.ins.length=0
 ·rw [if_neg (by omega)] at hnd
  by_cases c2:n.args.length=0
  ·rw [if_neg (by omega)] at hnd
   have hvv:=d32 (G:=G) n.shape n.wide n.data (Nat.lt_trans hn.shape (by omega)) (Nat.lt_trans hn.data (by omega))
   simp (disch:=omega) [go_sem,b9m,h,hop,c1,c2]
   refine a0c hvv rfl rfl ?_
   cases he:(a7m n.shape n.wide n.data).isNil with
   | true=>
    have e0:=a49.1 he
    rw [he] at hnd
    simp only [if_true] at hnd
    rw [e0]
    simp (disch:=omega) [go_sem,h,Er.flt]
    refine hok _ _ hv _ hnd hr (by simp (disch:=omega) [go_sem,h,eRl,a0f])
   | false=>
    rw [he] at hnd
    simp only [Bool.false_eq_true,if_false] at hnd
    generalize a7m n.shape n.wide n.data=e at *
    simp (disch:=omega) [go_sem,h]
    refine hbad e _ (by rw [hnd]) he (by simp (disch:=omega) [go_sem,h,eC])
  ·rw [if_pos (by omega)] at hnd
   have c2':¬ (n.args.length:Int)=0:=by omega
   have c2n:n.args≠[]:=fun e=>c2 (by rw [e]; rfl)
   simp (disch:=omega) [go_sem,b9m,h,hop,c1,c2',c2n]
   refine hbad (.s 6) _ (by rw [hnd]; rfl) rfl (by simp (disch:=omega) [go_sem,h,eC6])
 ·rw [if_pos (by omega)] at hnd
  have c1':¬ (n.ins.length:Int)=0:=by omega
  have c1n:n.ins≠[]:=fun e=>c1 (by rw [e]; rfl)
  simp (disch:=omega) [go_sem,b9m,h,hop,c1',c1n]
  refine hbad (.s 6) _ (by rw [hnd]; rfl) rfl (by simp (disch:=omega) [go_sem,h,eC6])
theorem d0o {ns:List Nd} {out:Int} {l:Lk} {hv:List Bool} {n:Nd} {i k:Int} (hf:l.fin) (hn:n.sh) (hr:RelK l hv) (hk:a0t n.op=true) (hi:∀ k∈n.ins,0<=k/\k < l.descs.length) (h:st.s 1= .var [slN ns,li out]/\st.s 2=zSn/\st.s 3= .var [li 0,lb false,li 0]/\st.s 4=slI l.ord/\st.s 6= .var (eRl l)/\st.s 7=lb l.input/\st.s 8=owB hv/\st.s 9=li i/\st.s 10=li k/\st.s 11= .var (a5q n)/\st.s 12= .var (eD dn)/\st.s 13=li 0) (hok:∀ (d:Ds) (l2:Lk) (hv2:List Bool) (s:St),a12 l n=((d,.nil),l2)->RelK l2 hv2->s.s 1= .var [slN ns,li out]/\s.s 2=zSn/\s.s 3= .var [li 0,lb false,li 0]/\s.s 4=slI l.ord/\s.s 6= .var (eRl l2)/\s.s 7=lb l2.input/\s.s 8=owB hv2/\s.s 9=li i/\s.s 10=li k/\s.s 12= .var (eD d)/\s.s 13=li 0->Q .normal s) (hbad:∀ (e:Er) (s:St),(a12 l n).1.2=e->e.isNil=false->s.s 1= .var [slN ns,li out]/\s.s 2=zSn/\s.s 3= .var [li 0,lb false,li 0]/\s.s 10=li k/\s.s 13=li (eC e)->Q .normal s):AW pg G 235 b9m Q st:=by
 have h0:=h
 simp only [eRl,a5q] at h
 have hop:4<=n.op/\n.op<=21:=by simpa [a0t] using hk
 have o1:¬ n.op=1:=by omega
 have o2:¬ n.op=2:=by omega
 have o3:¬ n.op=3:=by omega
 have hnd:a12 l n=(opR n.op n.args (lkD l n.ins),l):=by unfold a12; rw [if_pos hk]
 simp (disch:=omega) [go_sem,b9m,h,o1,o2,o3]
 refine a0c (a1z n.op) rfl rfl ?_
 simp (disch:=omega) [go_sem,h,hk]
 refine e40 (ns:=ns) (out:=out) (l:=l) (hv:=hv) (n:=n) (i:=i) (k:=k) (d:=dn) (c:=0) hi hn.ins (by simp (disch:=omega) [go_sem,h,eRl,a5q,dn]) (fun s h2=> ?_)
 simp only [eRl,a5q] at h2
 have spec:=d0s (G:=G) n.op n.args (lkD l n.ins) (by have:=hn.ins; simp; omega) (by have:=hn.args; omega) (by
   intro d hd
   simp only [lkD,List.mem_map] at hd
   obtain ⟨k,hk2,rfl⟩:=hd
   obtain ⟨h1,h2⟩:=hi k hk2
   have hlt:k.toNat < l.descs.length:=by omega
   rw [a8d hlt]
   exact hf.descs _ (List.getElem_mem hlt))
 simp only [slD,c9u] at spec
 have ht:(fm eD (lkD l n.ins)).take (n.ins.length*2)=fm eD (lkD l n.ins):=b6j (fun _=>rfl) (by simp)
 simp (disch:=omega) [go_sem,h2,ht]
 refine a5w spec (by simp [go_sem,a0p]) ?_ ?_
 all_goals
  generalize opR n.op n.args (lkD l n.ins)=r at *
  obtain ⟨d,e⟩:=r
  cases he:e.isNil with
  | true=>
   obtain rfl:e= .nil:=a49.1 he
   simp (disch:=omega) [go_sem,h2,a7s]
   refine hok d l hv _ hnd hr (by simp (disch:=omega) [go_sem,h2,eRl,a0f])
  | false=>
   simp (disch:=omega) [go_sem,h2]
   refine hbad e _ (by rw [hnd]) he (by simp (disch:=omega) [go_sem,h2])
theorem d3o {ns:List Nd} {out:Int} {l:Lk} {hv:List Bool} {n:Nd} {i k:Int} (hf:l.fin) (hn:n.sh) (hr:RelK l hv) (hop:n.op < 1\/21 < n.op) (h:st.s 1= .var [slN ns,li out]/\st.s 2=zSn/\st.s 3= .var [li 0,lb false,li 0]/\st.s 4=slI l.ord/\st.s 6= .var (eRl l)/\st.s 7=lb l.input/\st.s 8=owB hv/\st.s 9=li i/\st.s 10=li k/\st.s 11= .var (a5q n)/\st.s 12= .var (eD dn)/\st.s 13=li 0) (hok:∀ (d:Ds) (l2:Lk) (hv2:List Bool) (s:St),a12 l n=((d,.nil),l2)->RelK l2 hv2->s.s 1= .var [slN ns,li out]/\s.s 2=zSn/\s.s 3= .var [li 0,lb false,li 0]/\s.s 4=slI l.ord/\s.s 6= .var (eRl l2)/\s.s 7=lb l2.input/\s.s 8=owB hv2/\s.s 9=li i/\s.s 10=li k/\s.s 12= .var (eD d)/\s.s 13=li 0->Q .normal s) (hbad:∀ (e:Er) (s:St),(a12 l n).1.2=e->e.isNil=false->s.s 1= .var [slN ns,li out]/\s.s 2=zSn/\s.s 3= .var [li 0,lb false,li 0]/\s.s 10=li k/\s.s 13=li (eC e)->Q .normal s):AW pg G 235 b9m Q st:=by
 simp only [eRl,a5q] at h
 have o1:¬ n.op=1:=by omega
 have o2:¬ n.op=2:=by omega
 have o3:¬ n.op=3:=by omega
 have hk:a0t n.op=false:=by simp [a0t]; omega
 have hnd:a12 l n=(bad 5,l):=by unfold a12; rw [hk]; rw [if_neg (by simp),if_pos (by omega)]
 simp (disch:=omega) [go_sem,b9m,h,o1,o2,o3]
 refine a0c (a1z n.op) rfl rfl ?_
 simp (disch:=omega) [go_sem,h,hk]
 refine hbad (.s 5) _ (by rw [hnd]; rfl) rfl (by simp (disch:=omega) [go_sem,h,eC5])
theorem e42 {ns:List Nd} {out:Int} {l:Lk} {hv:List Bool} {n:Nd} {i k:Int} (hf:l.fin) (hn:n.sh) (hr:RelK l hv) (hop:n.op=3) (h:st.s 1= .var [slN ns,li out]/\st.s 2=zSn/\st.s 3= .var [li 0,lb false,li 0]/\st.s 4=slI l.ord/\st.s 6= .var (eRl l)/\st.s 7=lb l.input/\st.s 8=owB hv/\st.s 9=li i/\st.s 10=li k/\st.s 11= .var (a5q n)/\st.s 12= .var (eD dn)/\st.s 13=li 0) (hok:∀ (d:Ds) (l2:Lk) (hv2:List Bool) (s:St),a12 l n=((d,.nil),l2)->RelK l2 hv2->s.s 1= .var [slN ns,li out]/\s.s 2=zSn/\s.s 3= .var [li 0,lb false,li 0]/\s.s 4=slI l.ord/\s.s 6= .var (eRl l2)/\s.s 7=lb l2.input/\s.s 8=owB hv2/\s.s 9=li i/\s.s 10=li k/\s.s 12= .var (eD d)/\s.s 13=li 0->Q .normal s) (hbad:∀ (e:Er) (s:St),(a12 l n).1.2=e->e.isNil=false->s.s 1= .var [slN ns,li out]/\s.s 2=zSn/\s.s 3= .var [li 0,lb false,li 0]/\s.s 10=li k/\s.s 13=li (eC e)->Q .normal s):AW pg G 235 b9m Q st:=by
 simp only [eRl,a5q] at h
 have hn2:=hn.args
 have hwl:=hf.ws
 have hnd:a12 l n=if 0 < n.ins.length then (bad 6,l) else wtR l n.args:=by unfold a12; rw [hop]; simp [a0t]
 by_cases c1:n.ins.length=0
 ·rw [if_neg (by omega)] at hnd
  unfold wtR at hnd
  by_cases c2:n.args.length < 2
  ·rw [if_pos c2] at hnd
   have c2':(n.args.length:Int) < 2:=by omega
   simp (disch:=omega) [go_sem,b9m,h,hop,c1,c2']
   refine hbad (.s 6) _ (by rw [hnd]; rfl) rfl (by simp (disch:=omega) [go_sem,h,eC6])
  ·rw [if_neg c2] at hnd
   have c2':¬ (n.args.length:Int) < 2:=by omega
   have h0:0 < n.args.length:=by omega
   rw [a8d h0] at hnd
   by_cases c3:n.args[0] < 0\/8<=n.args[0]
   ·rw [if_pos c3] at hnd
    by_cases c4:n.args[0] < 0
    ·simp (disch:=omega) [go_sem,b9m,h,hop,c1,c2',h0,c4]
     refine hbad (.s 3) _ (by rw [hnd]; rfl) rfl (by simp (disch:=omega) [go_sem,h,eC3])
    ·have c5:8<=n.args[0]:=by omega
     simp (disch:=omega) [go_sem,b9m,h,hop,c1,c2',h0,c4,c5]
     refine hbad (.s 3) _ (by rw [hnd]; rfl) rfl (by simp (disch:=omega) [go_sem,h,eC3])
   ·rw [if_neg c3] at hnd
    have c4:¬ n.args[0] < 0:=by omega
    have c5:¬ 8<=n.args[0]:=by omega
    obtain ⟨w,hw⟩:∃ w:Nat,n.args[0]=w:=⟨n.args[0].toNat,by omega⟩
    have hw8:w < 8:=by omega
    rw [hw] at hnd c4 c5
    obtain ⟨tl,htl⟩:∃ tl,tl=n.args.drop 1:=⟨_,rfl⟩
    have htll:tl.length=n.args.length - 1:=by rw [htl]; simp
    have e1:n.args.length - 1=tl.length:=htll.symm
    have e2:List.take tl.length (List.map li n.args).tail=List.map li tl:=by rw [htl,<-List.drop_one,<-List.map_drop,List.take_of_length_le (by simp)]
    have hd:=c6j (G:=G) tl (by omega) (by omega)
    have hsn:=a8l (args:=tl) (a:=0)
    have hdd:=d43 (args:=tl) (by omega)
    have hfd:a2n tl 0=a2n n.args 1:=by rw [htl]; exact c7d h0
    rw [<-hfd] at hnd
    have hlenD:=a8k (args:=tl) (a:=0) (by omega)
    simp (disch:=omega) [go_sem,b9m,h,hop,c1,c2',h0,hw,c4,c5]
    simp only [e1,e2]
    refine a0g hd (by simp [go_sem,a0p]) (by simp (disch:=omega) [go_sem]) ?_
    generalize a2n tl 0=r at *
    obtain ⟨d,e⟩:=r
    simp only at hnd hdd hsn hlenD
    cases he:e.isNil with
    | false=>
     rw [he] at hnd
     simp only [Bool.false_eq_true,if_false] at hnd
     have hz:=e1u hsn he
     simp (disch:=omega) [go_sem,h,hz]
     refine hbad e _ (by rw [hnd]) he (by simp (disch:=omega) [go_sem,h])
    | true=>
     obtain rfl:e= .nil:=a49.1 he
     rw [he] at hnd
     simp only [if_true] at hnd
     simp only [Int.toNat_natCast] at hnd
     rw [hdd he,a7s]
     simp (disch:=omega) [go_sem,h]
     refine e4z (ns:=ns) (out:=out) (l:=l) (hv:=hv) (n:=n) (i:=i) (k:=k) (w:=w) (d:=d) (c:=0) hw8 hwl hr.len (by simp (disch:=omega) [go_sem,h,hop,hw,eRl,a5q,a0f]) (fun s h2=> ?_)
     simp only [eRl,a5q,hop] at h2
     have hg:=hr.get w hw8
     have hset:=d66 (d:=d) hr hw8
     have k1:w < (c2l hv w).length:=by simp [c2l]; omega
     have k2:w < (a6o l.ws w).length:=by simp [a6o]; omega
     have k3:hv[w]! =(c2l hv w)[w]:=by
      rw [<-a8d k1]
      unfold c2l
      by_cases c2:w < hv.length
      ·simp [c2,List.getElem?_append_left]
      ·rw [getElem!_def,getElem!_def,List.getElem?_append_right (by omega),List.getElem?_eq_none (by omega:hv.length<=w),List.getElem?_replicate,if_pos (by omega)]; rfl
     rw [k3] at hg
     have k4:(c2l hv w)[w]=true->l.ws[w]! =(a6o l.ws w)[w]:=by
      intro ht
      rw [<-k3] at ht
      have:w < hv.length:=by
       by_cases c2:w < hv.length
       ·exact c2
       ·rw [getElem!_def,List.getElem?_eq_none (by omega)] at ht; cases ht
      have hw2:w < l.ws.length:=by rw [<-hr.len]; exact this
      rw [<-a8d k2]
      unfold a6o
      simp [hw2,List.getElem?_append_left]
     have hPl:(c2l hv w).length=(a6o l.ws w).length:=by simp [c2l,a6o,hr.len]
     generalize c2l hv w=hv1 at *
     generalize a6o l.ws w=ws1 at *
     cases hb:hv1[w] with
     | false=>
      rw [hb] at hg
      simp only [Bool.false_eq_true,if_false] at hg
      rw [hg] at hnd
      simp only [Option.all_none,if_true] at hnd
      simp (disch:=omega) [go_sem,h2]
      refine a0b ?_
      simp (disch:=omega) [go_sem,h2,k1,k2,hb]
      refine a0d (by decide) fun s2 hs2 hep=> ?_
      simp (disch:=omega) [go_sem,hs2,hep,h2,k1,k2]
      refine hok d _ (hv1.set w true) _ hnd hset (by simp (disch:=omega) [go_sem,hs2,hep,h2,k1,k2,eRl,b62])
     | true=>
      rw [hb] at hg
      simp only [if_true] at hg
      rw [k4 hb] at hg
      rw [hg] at hnd
      simp only [Option.all_some,decide_eq_true_eq] at hnd
      have hsm:=b21 (G:=G) d ws1[w] (by omega)
      simp (disch:=omega) [go_sem,h2]
      refine a0b ?_
      simp (disch:=omega) [go_sem,h2,k1,k2,hb]
      refine a47 hsm rfl (by simp (disch:=omega) [go_sem]) (by simp) [178] (by simp) (by simp (disch:=omega) [go_sem]) ?_
      simp (disch:=omega) [go_sem,h2,k1,k2,hb]
      refine a0d (by decide) fun s2 hs2 hep=> ?_
      by_cases hq:d=ws1[w]
      ·rw [if_pos hq] at hnd
       simp (disch:=omega) [go_sem,hs2,hep,h2,k1,k2,hq]
       refine hok d _ (hv1.set w true) _ hnd hset (by simp (disch:=omega) [go_sem,hs2,hep,h2,k1,k2,eRl,b62,<-hq])
      ·rw [if_neg hq] at hnd
       simp (disch:=omega) [go_sem,hs2,hep,h2,k1,k2,hq]
       refine hbad (.s 6) _ (by rw [hnd]; rfl) rfl (by simp (disch:=omega) [go_sem,hs2,hep,h2,eC6])
 ·rw [if_pos (by omega)] at hnd
  have c1':¬ (n.ins.length:Int)=0:=by omega
  have c1n:n.ins≠[]:=fun e=>c1 (by rw [e]; rfl)
  simp (disch:=omega) [go_sem,b9m,h,hop,c1',c1n]
  refine hbad (.s 6) _ (by rw [hnd]; rfl) rfl (by simp (disch:=omega) [go_sem,h,eC6])
theorem d3p {ns:List Nd} {out:Int} {l:Lk} {hv:List Bool} {n:Nd} {i k:Int} (hf:l.fin) (hn:n.sh) (hr:RelK l hv) (hi:a0t n.op=true->∀ k∈n.ins,0<=k/\k < l.descs.length) (h:st.s 1= .var [slN ns,li out]/\st.s 2=zSn/\st.s 3= .var [li 0,lb false,li 0]/\st.s 4=slI l.ord/\st.s 6= .var (eRl l)/\st.s 7=lb l.input/\st.s 8=owB hv/\st.s 9=li i/\st.s 10=li k/\st.s 11= .var (a5q n)/\st.s 12= .var (eD dn)/\st.s 13=li 0) (hok:∀ (d:Ds) (l2:Lk) (hv2:List Bool) (s:St),a12 l n=((d,.nil),l2)->RelK l2 hv2->s.s 1= .var [slN ns,li out]/\s.s 2=zSn/\s.s 3= .var [li 0,lb false,li 0]/\s.s 4=slI l.ord/\s.s 6= .var (eRl l2)/\s.s 7=lb l2.input/\s.s 8=owB hv2/\s.s 9=li i/\s.s 10=li k/\s.s 12= .var (eD d)/\s.s 13=li 0->Q .normal s) (hbad:∀ (e:Er) (s:St),(a12 l n).1.2=e->e.isNil=false->s.s 1= .var [slN ns,li out]/\s.s 2=zSn/\s.s 3= .var [li 0,lb false,li 0]/\s.s 10=li k/\s.s 13=li (eC e)->Q .normal s):AW pg G 235 b9m Q st:=by
 by_cases o1:n.op=1
 ·exact e4y hf hn hr o1 h hok hbad
 by_cases o2:n.op=2
 ·exact d0n hf hn hr o2 h hok hbad
 by_cases o3:n.op=3
 ·exact e42 hf hn hr o3 h hok hbad
 by_cases o4:n.op < 1\/21 < n.op
 ·exact d3o hf hn hr o4 h hok hbad
 ·have hk:a0t n.op=true:=by simp [a0t]; omega
  exact d0o hf hn hr hk (hi hk) h hok hbad
end
theorem d1r {P:Program} {G:GG} {N:Nat} {Q:Exit->St->Prop} {st st':St} {aft:List (List Nat)} {rest:List AO} {d:Option Nat} {i:IOp} {xs:List X} (W:List Nat) (ho:b3x i=some xs) (he:evS G N d i st=some st') (hN:∀ t∈d.toList++a0r st xs,t < N) (hW:∀ t∈W,t < N) (hs:d71 N st i=true) (hf:fr N W st st')
  (h:a93 P G N (aft,[]) rest [(d.toList++a0r st xs,W)] (Q .normal) st'):AW P G N (.draw (⟨d,.op i,none⟩::rest) aft) Q st:=by
 have hI:∀ s:St,a99 [] s:=fun s p hp=>by cases hp
 refine ⟨[],by simp,hI st,?_⟩
 simp only [dCh]
 refine ⟨st',_,W,?_,hI st',by simpa using a8i (aft:=(aft,[])) rest _ (Q .normal) st' (hI st') h⟩
 have:b0j P G N (⟨d,.op i,none⟩:AO)=b8i P G N d (.op i):=by funext K st; simp only [b0j]
 rw [this]
 exact d4y ho he hN hW (d04 hs) hf
def fC (e:Er):List AV:=[li e.flt.1,lb e.flt.2.1,li e.flt.2.2]
section
variable {G:GG} {bk:Nat->Nat×Nat} {Q:Exit->St->Prop} {st:St}
theorem e41 {g:Gr} (hf:∀ n∈g.nodes,n.sh) (hl:g.nodes.length<=64) {ord:List Int} (hord:∀ x∈ord,0<=x/\x < (g.nodes.length:Int)) (hlo:ord.length < 2 ^ 36)
  (hins:∀ n∈g.nodes,∀ k∈n.ins,0<=k/\k < (g.nodes.length:Int)) {l0:Lk} (hl0:l0.fin) (hd0:l0.descs.length=g.nodes.length) (ho0:l0.ord=ord) (hr0:RelK l0 [])
  (h:st.s 1= .var [slN g.nodes,li g.out]/\st.s 2=zSn/\st.s 3= .var [li 0,lb false,li 0]/\st.s 4=slI ord/\st.s 6= .var (eRl l0)/\st.s 7=lb l0.input/\st.s 8=owB []/\st.s 9=li 0)
  (hret:∀ e,a1y g.nodes l0 ord=(sn0,e)->∀ s:St,s.s 2= .var (eSn sn0)/\s.s 3= .var (fC e)->Q .ret s)
  (hex:∀ l,a1y g.nodes l0 ord=(l.sn,.nil)->∀ s:St,s.s 2=zSn/\s.s 3= .var [li 0,lb false,li 0]/\s.s 6= .var (eRl l)->Q (.exit 0) s):AW pg G 235 (.loop a6k) Q st:=by
 refine a0u (Nat×Lk×List Bool) (fun p st=>p.1<=ord.length/\p.2.1.fin/\p.2.1.descs.length=g.nodes.length/\p.2.1.ord=ord/\RelK p.2.1 p.2.2/\a1y g.nodes p.2.1 (ord.drop p.1)=a1y g.nodes l0 ord/\st.s 1= .var [slN g.nodes,li g.out]/\st.s 2=zSn/\st.s 3= .var [li 0,lb false,li 0]/\st.s 4=slI ord/\st.s 6= .var (eRl p.2.1)/\st.s 7=lb p.2.1.input/\st.s 8=owB p.2.2/\st.s 9=li p.1) (fun p=>ord.length - p.1) (0,l0,[]) ⟨by simp,hl0,hd0,ho0,hr0,by simp,h⟩ ?_
 clear h
 rintro ⟨j,l,hv⟩ st K ⟨hj,hfl,hd,ho,hrl,hm,h⟩ hK
 simp only at hj hfl hd ho hrl hm h
 rw [a6k]
 by_cases c:j < ord.length
 ·have hx:=hord _ (List.getElem_mem c)
  obtain ⟨i,hi⟩:∃ i:Nat,ord[j]=i:=⟨ord[j].toNat,by omega⟩
  rw [hi] at hx
  have hin:i < g.nodes.length:=by omega
  have hmem:=List.getElem_mem hin
  have hn:=hf _ hmem
  have hii:a0t g.nodes[i].op=true->∀ k∈g.nodes[i].ins,0<=k/\k < l.descs.length:=fun _ k hk=>by rw [hd]; exact hins _ hmem k hk
  rw [List.drop_eq_getElem_cons c,a1y,hi,show g.nodes[((i:Int)).toNat]! =g.nodes[i] by simp [hin]] at hm
  have hfin:=b7p hfl hn
  have hlen:=b7q hfl hn hii
  have hwb:=c0m (l:=l) (n:=g.nodes[i])
  have hde:=a9h (l:=l) (n:=g.nodes[i])
  simp (disch:=omega) [go_sem,h,c,hi,hin]
  refine d3p (ns:=g.nodes) (out:=g.out) (l:=l) (hv:=hv) (n:=g.nodes[i]) (i:=j) (k:=i) hfl hn hrl hii (by simp (disch:=omega) [go_sem,h,hi,hin,a5q,dn,ho]) (fun d l2 hv2 s hnd hr2 h2=> ?_) (fun e s hnd he h2=> ?_)
  ·rw [hnd] at hm hfin hlen hwb hde
   simp only [Er.isNil,if_true,Int.toNat_natCast] at hm hfin hlen hde
   have hi2:i < l2.descs.length:=by rw [hde.1,hd]; exact hin
   have ho2:l2.ord=ord:=by rw [hde.2,ho]
   simp only [eRl,ho2,ho] at h2
   have hcd:=b14 (G:=G) d.shape d.wide hlen
   simp (disch:=omega) [go_sem,h2]
   refine a0b ?_
   simp (disch:=omega) [go_sem,h2,hi2]
   refine a47 hcd rfl (by simp (disch:=omega) [go_sem]) (by simp) [231] (by simp) (by simp (disch:=omega) [go_sem]) ?_
   simp (disch:=omega) [go_sem,h2,hi2]
   refine a0d (by decide) fun s3 hs3 hep3=> ?_
   simp (disch:=omega) [go_sem,hs3,hep3,h2,hi2]
   refine hK (j+1,{ l2 with descs:=l2.descs.set i d },hv2) _ ⟨by simp only; omega,⟨fun x hx=> ?_,hfin.hin,hfin.vals,hfin.ws⟩,by simp only [List.length_set]; rw [hde.1]; exact hd,ho2,⟨hr2.len,hr2.get⟩,hm,by simp (disch:=omega) [go_sem,hs3,hep3,h2,hi2,eRl,b62,ho2]⟩ (by simp only; omega)
   rcases List.mem_or_eq_of_mem_set hx with hx | rfl
   ·exact hfin.descs _ hx
   ·exact hlen
  ·rw [hnd,he] at hm
   rw [hnd] at hwb
   simp only [Bool.false_eq_true,if_false] at hm
   have hz:eC e≠0:=(d4p (k:=0) hwb he).2
   simp (disch:=omega) [go_sem,h2,hz]
   refine a0c (d0q hwb he) rfl rfl ?_
   simp (disch:=omega) [go_sem,h2,hz]
   exact hret (atE i e) hm.symm _ (by simp (disch:=omega) [go_sem,h2,eSn,sn0,dn,a5s,fC,a0f])
 ·have:j=ord.length:=by omega
  subst this
  simp (disch:=omega) [go_sem,h]
  rw [List.drop_length,a1y] at hm
  exact hex l hm.symm _ (by simp (disch:=omega) [go_sem,h])
theorem f2c (g:Gr) (hf:∀ n∈g.nodes,n.sh) (hn:g.nodes.length < 2 ^ 36):ACalls pg G b6r [d1i g] (.tup [.agg (eSn (ofR g).1),fE (ofR g).2]):=by
 refine b3n rfl ?_
 by_cases c1:64 < g.nodes.length
 ·have c1':(64:Int) < g.nodes.length:=by omega
  have e:ofR g=(sn0,.s 2):=by unfold ofR; rw [if_pos c1]
  simp (disch:=omega) [go_sem,a31,c1']
  refine a0c (b6z 104) rfl rfl ?_
  simp (disch:=omega) [go_sem,e,eSn,sn0,dn,a5s,Er.flt,a0f]
  decide
 have c1':¬ (64:Int) < g.nodes.length:=by omega
 by_cases c2:g.out < 0
 ·have e:ofR g=(sn0,.s 0):=by unfold ofR; rw [if_neg c1,if_pos (.inl c2)]
  simp (disch:=omega) [go_sem,a31,c1',c2]
  refine a0c (b6z 107) rfl rfl ?_
  simp (disch:=omega) [go_sem,e,eSn,sn0,dn,a5s,Er.flt,a0f]
  decide
 by_cases c3:g.nodes.length<=g.out
 ·have e:ofR g=(sn0,.s 0):=by unfold ofR; rw [if_neg c1,if_pos (.inr c3)]
  simp (disch:=omega) [go_sem,a31,c1',c2,c3]
  refine a0c (b6z 107) rfl rfl ?_
  simp (disch:=omega) [go_sem,e,eSn,sn0,dn,a5s,Er.flt,a0f]
  decide
 have hrl:∀ r∈g.nodes.map (·.ins),r.length < 2 ^ 36:=by
  intro r hr
  obtain ⟨n,hn2,rfl⟩:=List.mem_map.1 hr
  exact (hf n hn2).ins
 have hso:=d7l (G:=G) (g.nodes.map (·.ins)) (by simp; omega) (fun r hr=>by have:=hrl r hr; omega)
 obtain ⟨ag1,ag2⟩:=b1j (ins:=g.nodes.map (·.ins)) (fun r hr=>by have:=hrl r hr; omega)
 have hof:ofR g=match a9i (g.nodes.map (·.ins)) with
  | .error e=>(sn0,.at e.1 (.s e.2))
  | .ok ord=>a1y g.nodes (lk0 ord g.nodes.length) ord:=by
  unfold ofR; rw [if_neg c1,if_neg (by omega)]
  cases a9i (g.nodes.map (·.ins))<;>rfl
 have hsl:a6t (g.nodes.map (·.ins))= .sl g.nodes.length (g.nodes.map fun x=> .sl x.ins.length (x.ins.map li)):=by
  simp only [a6t,List.length_map,List.map_map]; rfl
 rw [hsl] at hso
 simp (disch:=omega) [go_sem,a31,c1',c2,c3]
 refine a0g (d23 g (by omega)) (by simp [go_sem,a0p]) (by simp (disch:=omega) [go_sem]) ?_
 simp (disch:=omega) [go_sem]
 cases ho:a9i (g.nodes.map (·.ins)) with
 | error e=>
  obtain ⟨p,k⟩:=e
  obtain ⟨a1,a2⟩:=ag1 p k ho
  rw [a1] at hso
  rw [ho] at hof
  simp only at hof
  have hz:=a69 k a2
  refine a5w hso (by simp [go_sem,a0p]) ?_ ?_
  all_goals
   simp (disch:=omega) [go_sem,hz]
   refine a0b ?_
   simp (disch:=omega) [go_sem]
   refine a0d (by decide) fun s2 hs2 hep=> ?_
   simp (disch:=omega) [go_sem,hs2,hep,hof,eSn,sn0,dn,a5s,Er.flt,a0f]
 | ok ord=>
  have a1:=ag2 ord ho
  rw [a1] at hso
  rw [ho] at hof
  simp only at hof
  have hx:=a5i (ins:=g.nodes.map (·.ins)) (fun r hr=>by have:=hrl r hr; omega) ho
  have hlen:=b7x (ins:=g.nodes.map (·.ins)) (fun r hr=>by have:=hrl r hr; omega) ho
  simp only [List.length_map] at hx hlen
  refine a5w hso (by simp [go_sem,a0p]) ?_ ?_
  all_goals
   simp (disch:=omega) [go_sem,c5d]
   refine e41 (g:=g) hf (by omega) (ord:=ord) hx.2.2.1 (by omega) (fun n hn2=>hx.2.2.2.2 _ (List.mem_map.2 ⟨n,hn2,rfl⟩)) (l0:=lk0 ord g.nodes.length) ⟨fun d hd=>by
    simp only [lk0,List.mem_replicate] at hd
    rw [hd.2]; simp [dn],by simp [lk0,dn],by simp [lk0],by simp [lk0]⟩ (by simp [lk0]) rfl ⟨by simp [lk0],fun k hk=>by simp [lk0,c2o]⟩ (by simp (disch:=omega) [go_sem,lk0,eRl,a5s,dn,c5d]) (fun e hm s h=> ?_) (fun l hm s h=> ?_)
   ·simp only [fC] at h
    have e1:eSn sn0=[.sl 0 [],.sl 0 [],.sl 0 [],lb false,.sl 0 []]:=rfl
    rw [e1] at h
    simp (disch:=omega) [go_sem,h,hof,hm,e1]
   ·simp only [eRl] at h
    simp (disch:=omega) [go_sem,h]
    have he:evS G 235 (some 233) (.load 118 (some 5) (.t 6)) s=some ((s.set 6 (.var [slI l.ord,slD l.descs,slI l.hin.shape,lb l.hin.wide,slD l.ws])).put 233 (.agg [slI l.ord,slD l.descs,slI l.hin.shape,lb l.hin.wide,slD l.ws])):=by
     simp (disch:=omega) [go_sem,h]
    refine d1r (d:=some 233) (i:= .load 118 (some 5) (.t 6)) [233,6] rfl he (by simp (disch:=omega) [go_sem,h]) (by simp) rfl (by simp (disch:=omega) [go_sem,h]) ?_
    simp (disch:=omega) [go_sem,h]
    refine a0m (b7r G) rfl rfl (by simp) [234] (by simp) (by simp (disch:=omega) [go_sem,h]) ?_
    simp (disch:=omega) [go_sem,h]
    refine a0d (by decide) fun s2 hs2 hep=> ?_
    simp (disch:=omega) [go_sem,hs2,hep,h,hof,hm,eSn,Lk.sn,Er.flt,a0f]
end
end Go.Ideal.Tryz
end
section
namespace Go.Ideal.Tryz
theorem e23 {l:Lk} {args:List Int} (h:(inR l args).1.2.isNil=true):(inR l args).2.input=true/\(inR l args).2.hin=(inR l args).1.1/\(l.input=true->(inR l args).2.hin=l.hin):=by
 unfold inR at h ⊢
 split at h
 ·rename_i h1
  rw [if_pos h1]
  split at h
  ·simp [bad,Er.isNil] at h
  ·rename_i h2
   rw [if_neg h2]
   refine ⟨rfl,rfl,fun h3=> ?_⟩
   simp only [not_and,Decidable.not_not] at h2
   exact h2 h3
 ·rename_i h1
  simp only at h
  exact absurd h h1
theorem c99 {l:Lk} {n:Nd} (h:n.op≠1):(a12 l n).2.hin=l.hin/\(a12 l n).2.input=l.input:=by
 unfold a12 wtR
 repeat' split
 all_goals first | exact ⟨rfl,rfl⟩ | (rename_i h1 _; exact absurd h1 h) | (rename_i h1; exact absurd h1 h)
theorem c27 {l:Lk} {n:Nd} (h:n.op=1) (hok:(a12 l n).1.2.isNil=true):a12 l n=inR l n.args:=by
 have hk:a0t n.op=false:=by rw [h]; rfl
 unfold a12 at hok ⊢
 rw [hk] at hok ⊢
 simp only [Bool.false_eq_true,if_false] at hok ⊢
 rw [if_neg (by omega)] at hok ⊢
 split at hok
 ·simp [bad,Er.isNil] at hok
 ·rename_i h2
  rw [if_neg h2]
  rw [if_pos h]
def f5m (ns:List Nd) (l:Lk) (S:Int->Prop):Prop:=∀ i:Nat,S i->ns[i]!.op=1->l.descs[i]! =l.hin/\l.input=true
theorem b89 {ns:List Nd} {m:Nat}:∀ {is:List Int} {l:Lk} {S:Int->Prop},l.descs.length=m->(∀ i∈is,0<=i/\i < (m:Int))->is.Nodup->(∀ i∈is,¬ S i)->f5m ns l S->(a1y ns l is).2.isNil=true->
  ∀ i:Nat,(S i\/(i:Int)∈is)->ns[i]!.op=1->(a1y ns l is).1.descs[i]! =(a1y ns l is).1.hin
 | [],l,S,hm,hr,hnd,hS,hI,h,i,hi,hop=>by
  rcases hi with hi | hi
  ·exact (hI i hi hop).1
  ·simp at hi
 | k::is,l,S,hm,hr,hnd,hS,hI,h,i,hi,hop=>by
  have hk:=hr k (by simp)
  have hde:=a9h (l:=l) (n:=ns[k.toNat]!)
  have hnil:∀ e:Er,(atE k e).isNil=true->e.isNil=true:=by
   intro e; cases e<;>simp [atE,Er.isNil]
  rw [a1y] at h ⊢
  cases he:(a12 l ns[k.toNat]!).1.2.isNil with
  | false=>
   rw [he] at h
   simp only [Bool.false_eq_true,if_false] at h
   rw [hnil _ h] at he
   cases he
  | true=>
   rw [he] at h
   simp only [if_true] at h ⊢
   rw [List.nodup_cons] at hnd
   have hkl:k.toNat < l.descs.length:=by omega
   refine b89 (S:=fun j=>S j\/j=k) (by simp only [List.length_set]; rw [hde.1]; exact hm) (fun j hj=>hr j (by simp [hj])) hnd.2 (fun j hj hs=> ?_) ?_ h i ?_ hop
   ·rcases hs with hs | rfl
    ·exact hS j (by simp [hj]) hs
    ·exact hnd.1 hj
   ·intro j hj hopj
    simp only
    rw [hde.1,get!_set hkl]
    by_cases hjk:j=k.toNat
    ·rw [if_pos hjk]
     subst hjk
     have e1:=c27 hopj he
     rw [e1] at he ⊢
     have:=e23 he
     exact ⟨this.2.1.symm,this.1⟩
    ·rw [if_neg hjk]
     have hSj:S j:=by
      rcases hj with hj | hj
      ·exact hj
      ·omega
     obtain ⟨q1,q2⟩:=hI j hSj hopj
     by_cases hop2:ns[k.toNat]!.op=1
     ·have e1:=c27 hop2 he
      rw [e1] at he ⊢
      have:=e23 he
      exact ⟨by rw [q1,this.2.2 q2],this.1⟩
     ·have:=c99 (l:=l) hop2
      rw [this.1,this.2]
      exact ⟨q1,q2⟩
   ·rcases hi with hi | hi
    ·exact .inl (.inl hi)
    ·rcases List.mem_cons.1 hi with hi | hi
     ·exact .inl (.inr hi)
     ·exact .inr hi
theorem e4i {g:Gr} (hf:∀ n∈g.nodes,n.sh) (h:(ofR g).2.isNil=true) {i:Nat} (hi:i < g.nodes.length) (hop:g.nodes[i]!.op=1):(ofR g).1.descs[i]! =(ofR g).1.hin:=by
 obtain ⟨h1,h2,h3,h4,h5,h6,_⟩:=c6f hf h
 have hx:=a5i (ins:=g.nodes.map (·.ins)) (fun r hr=>by
  obtain ⟨n,hn,rfl⟩:=List.mem_map.1 hr
  have:=(hf n hn).ins
  omega) h3
 simp only [List.length_map] at hx
 unfold ofR at h ⊢
 rw [if_neg (by omega),if_neg (by omega)] at h ⊢
 generalize (ofR g).1.ord=ord at *
 rw [h3] at h ⊢
 simp only at h ⊢
 exact b89 (m:=g.nodes.length) (S:=fun _=>False) (by simp [lk0]) hx.2.2.1 hx.1 (fun _ _ h=>h) (fun _ h=>h.elim) h i (.inr (hx.2.1 i hi)) hop
theorem c13:∀ {is:List Int} {k:Nat} {a:List Int} {i:Nat},(i:Int) ∉ is->(∀ x∈is,0<=x)->(c75 k a is)[i]! =a[i]!
 | [],_,_,_,_,_=>rfl
 | x::is,k,a,i,h,hx=>by
  simp only [List.mem_cons,not_or] at h
  have h0:=hx x (by simp)
  rw [c75,c13 h.2 (fun y hy=>hx y (by simp [hy])),getElem!_def,getElem!_def,List.getElem?_set_ne (by omega)]
theorem c8m:∀ {is:List Int} {k:Nat} {a:List Int} {p:Nat},is.Nodup->(∀ x∈is,0<=x/\x < (a.length:Int))->p < is.length->(c75 k a is)[(is[p]!).toNat]! =((k+p:Nat):Int)
 | x::is,k,a,p,hnd,hr,hp=>by
  rw [List.nodup_cons] at hnd
  have hx:=hr x (by simp)
  cases p with
  | zero=>
   have e:(x::is)[0]! =x:=rfl
   rw [e,c75,c13 (by rw [Int.toNat_of_nonneg hx.1]; exact hnd.1) (fun y hy=>(hr y (by simp [hy])).1),get!_set (by omega),if_pos rfl]
   rfl
  | succ p=>
   have e:(x::is)[p+1]! =is[p]! :=by simp
   rw [e,c75,c8m hnd.2 (fun y hy=>by rw [List.length_set]; exact hr y (by simp [hy])) (by simpa using hp)]
   congr 1
   omega
theorem c6p {a:List Int}:∀ {us:List Int} {t v:Int},t<=v->(∀ u∈us,a[u.toNat]! <=v)->(v=t\/∃ u∈us,v=a[u.toNat]!)->d09 a t us=v
 | [],t,v,_,_,h3=>by
  rcases h3 with h | ⟨u,h,_⟩
  ·rw [h]; rfl
  ·simp at h
 | u::us,t,v,h1,h2,h3=>by
  have hu2:=h2 u (by simp)
  rw [d09]
  refine c6p (by omega) (fun x hx=>h2 x (by simp [hx])) ?_
  rcases h3 with h | ⟨x,hx,h⟩
  ·left; omega
  ·rcases List.mem_cons.1 hx with rfl | hx
   ·left; omega
   ·exact .inr ⟨x,hx,h⟩
structure PIn (g:Gr) (F:Nat->Sp) (LEN:Int) (S:Nat->Prop) (inn:Sp):Prop where
 a:inn.a= -1
 off:inn.off=0
 low: -1<=inn.b
 ge:∀ k,S k->g.nodes[k]!.op=1->(F k).b<=inn.b
 at_:inn.b= -1\/∃ k,S k/\g.nodes[k]!.op=1/\inn.b=(F k).b
 len:((∀ k,S k->g.nodes[k]!.op≠1)/\inn.len=4)\/((∃ k,S k/\g.nodes[k]!.op=1)/\inn.len=LEN)
theorem PIn.zero {g:Gr} {F:Nat->Sp} {LEN:Int} {S:Nat->Prop} (h:∀ k,¬ S k):PIn g F LEN S ⟨-1,-1,0,4⟩:=
 ⟨rfl,rfl,by simp,fun k hk=>absurd hk (h k),.inl rfl,.inl ⟨fun k hk=>absurd hk (h k),rfl⟩⟩
theorem PIn.step {g:Gr} {F:Nat->Sp} {LEN:Int} {S S':Nat->Prop} {inn:Sp} {k:Nat} (h:PIn g F LEN S inn) (hS:∀ j,S' j↔S j\/j=k) (hlen:g.nodes[k]!.op=1->(F k).len=LEN):PIn g F LEN S' (if g.nodes[k]!.op=1 then d21 inn (F k) else inn):=by
 by_cases c:g.nodes[k]!.op=1
 ·rw [if_pos c]
  have h0:=h.low
  refine ⟨h.a,h.off,by simp only [d21]; omega,fun j hj hop=> ?_,?_,.inr ⟨⟨k,(hS k).2 (.inr rfl),c⟩,hlen c⟩⟩
  ·simp only [d21]
   rcases (hS j).1 hj with hj | rfl
   ·have:=h.ge j hj hop; omega
   ·omega
  ·simp only [d21]
   by_cases c2:inn.b<=(F k).b
   ·exact .inr ⟨k,(hS k).2 (.inr rfl),c,by omega⟩
   ·rcases h.at_ with h1 | ⟨j,h1,h2,h3⟩
    ·left; omega
    ·exact .inr ⟨j,(hS j).2 (.inl h1),h2,by omega⟩
 ·rw [if_neg c]
  refine ⟨h.a,h.off,h.low,fun j hj hop=> ?_,?_,?_⟩
  ·rcases (hS j).1 hj with hj | rfl
   ·exact h.ge j hj hop
   ·exact absurd hop c
  ·rcases h.at_ with h1 | ⟨j,h1,h2,h3⟩
   ·exact .inl h1
   ·exact .inr ⟨j,(hS j).2 (.inl h1),h2,h3⟩
  ·rcases h.len with ⟨h1,h2⟩ | ⟨⟨j,h1,h2⟩,h3⟩
   ·refine .inl ⟨fun j hj=> ?_,h2⟩
    rcases (hS j).1 hj with hj | rfl
    ·exact h1 j hj
    ·exact c
   ·exact .inr ⟨⟨j,(hS j).2 (.inl h1),h2⟩,h3⟩
theorem PIn.eq {g:Gr} {F:Nat->Sp} {LEN:Int} {S:Nat->Prop} {x y:Sp} (hx:PIn g F LEN S x) (hy:PIn g F LEN S y):x=y:=by
 have e2:x.b=y.b:=by
  have l1:=hx.low
  have l2:=hy.low
  have h1:x.b<=y.b:=by
   rcases hx.at_ with h | ⟨k,h1,h2,h3⟩
   ·omega
   ·have:=hy.ge k h1 h2; omega
  have h2:y.b<=x.b:=by
   rcases hy.at_ with h | ⟨k,h1,h2,h3⟩
   ·omega
   ·have:=hx.ge k h1 h2; omega
  omega
 have e3:x.len=y.len:=by
  rcases hx.len with ⟨h1,h2⟩ | ⟨⟨k,h1,h2⟩,h3⟩
  ·rcases hy.len with ⟨h4,h5⟩ | ⟨⟨k,h4,h5⟩,h6⟩
   ·rw [h2,h5]
   ·exact absurd h5 (h1 k h4)
  ·rcases hy.len with ⟨h4,h5⟩ | ⟨⟨k,h4,h5⟩,h6⟩
   ·exact absurd h2 (h4 k h1)
   ·rw [h3,h6]
 cases x; cases y
 have a1:=hx.a; have a2:=hy.a; have o1:=hx.off; have o2:=hy.off
 simp only at a1 a2 o1 o2 e2 e3
 rw [a1,a2,o1,o2,e2,e3]
theorem d7y {g:Gr} {ds:List Ds} {a:List Int} {uss:List (List Int)} {N:Nat} {LEN:Int} (hN:uss.length=N) {F:Nat->Sp} (hF:∀ i,i < N->d34 g ds a i uss[i]! =F i) (hlen:∀ i,i < N->g.nodes[i]!.op=1->(F i).len=LEN) :
  (b8l g ds a 0 uss [] ⟨-1,-1,0,4⟩).1=(List.range N).map F/\PIn g F LEN (fun k=>k < N) (b8l g ds a 0 uss [] ⟨-1,-1,0,4⟩).2:=by
 have key:∀ d i inn,i+d=N->PIn g F LEN (fun k=>k < i) inn->(b8l g ds a i (uss.drop i) ((List.range i).map F) inn).1=(List.range N).map F/\PIn g F LEN (fun k=>k < N) (b8l g ds a i (uss.drop i) ((List.range i).map F) inn).2:=by
  intro d
  induction d with
  | zero=>
   intro i inn hi hp
   obtain rfl:i=N:=by omega
   rw [List.drop_of_length_le (by omega),b8l]
   exact ⟨rfl,hp⟩
  | succ d ih=>
   intro i inn hi hp
   rw [get!_drop (by omega),b8l,hF i (by omega)]
   have e1:(List.range i).map F++[F i]=(List.range (i+1)).map F:=by rw [List.range_succ,List.map_append]; rfl
   rw [e1]
   exact ih (i+1) _ (by omega) (hp.step (fun j=>by omega) (hlen i (by omega)))
 have:=key N 0 _ (by omega) (PIn.zero (fun k=>by omega))
 rw [List.drop_zero] at this
 exact this
theorem b71 {g:Gr} {inn:Sp} {offs:List Int}:∀ {is:List Int} {out:List Sp} {k:Nat} {b:Bool},(a6d g inn offs out k b is).2=(b&&is.all fun i=>decide (g.nodes[i.toNat]!.op≠1))
 | [],_,_,b=>by simp [a6d]
 | i::is,out,k,b=>by
  rw [a6d]
  by_cases c:g.nodes[i.toNat]!.op=1
  ·have e:decide (g.nodes[i.toNat]!.op≠1)=false:=decide_eq_false (fun h=>h c)
   rw [if_pos c,b71,List.all_cons,e]
   cases b<;>rfl
  ·have e:decide (g.nodes[i.toNat]!.op≠1)=true:=decide_eq_true c
   rw [if_neg c,b71,List.all_cons,e,Bool.true_and]
end Go.Ideal.Tryz
end
section
namespace Go.Ideal.Tryz
attribute [local go_sem] eD
section
variable {G:GG} {bk:Nat->Nat×Nat} {Q:Exit->St->Prop} {st:St}
def c1w (g:Gr) (l:List Int):Bool:=l.any fun i=>decide (g.nodes[i.toNat]!.op=1)
def d4a (g:Gr) (ord:List Int) (k:Int) (j:Nat):Prop:=k∈g.nodes[(ord[j]!).toNat]!.ins
theorem f0z {g:Gr} {s:Sn} {arr:List Sp} {inn x:Sp} {some:Bool} {p k:Nat} (hn:g.nodes.length<=64) (hf:∀ n∈g.nodes,n.ins.length < 2 ^ 62) (hord:∀ x∈s.ord,0<=x/\x < (g.nodes.length:Int)) (hol:s.ord.length<=64)
  (h:st.s 1= .var [slN g.nodes,li g.out]/\st.s 2=owS []/\st.s 3=li 0/\st.s 4= .var [li 0,lb false,li 0]/\st.s 5= .var (eSn s)/\st.s 7=owS arr/\st.s 8= .var (eS inn)/\st.s 9=lb some/\st.s 10=li p/\st.s 11=li k/\st.s 12= .var (eS x)/\st.s 13=li 0)
  (hex:∀ (t:Int) (s':St),x.b<=t->(∀ j,j < s.ord.length->d4a g s.ord k j->(j:Int)<=t)->(t=x.b\/∃ j,j < s.ord.length/\d4a g s.ord k j/\t=j)->s'.s 1= .var [slN g.nodes,li g.out]/\s'.s 2=owS []/\s'.s 3=li 0/\s'.s 4= .var [li 0,lb false,li 0]/\s'.s 5= .var (eSn s)/\s'.s 7=owS arr/\s'.s 8= .var (eS inn)/\s'.s 9=lb some/\s'.s 10=li p/\s'.s 11=li k/\s'.s 12= .var (eS { x with b:=t })->Q (.exit 2) s'):AW pg G 196 (.loop a3s) Q st:=by
 refine a0u (Nat×Int) (fun q st=>q.1<=s.ord.length/\x.b<=q.2/\(∀ j,j < q.1->d4a g s.ord k j->(j:Int)<=q.2)/\(q.2=x.b\/∃ j,j < q.1/\d4a g s.ord k j/\q.2=j)/\st.s 1= .var [slN g.nodes,li g.out]/\st.s 2=owS []/\st.s 3=li 0/\st.s 4= .var [li 0,lb false,li 0]/\st.s 5= .var (eSn s)/\st.s 7=owS arr/\st.s 8= .var (eS inn)/\st.s 9=lb some/\st.s 10=li p/\st.s 11=li k/\st.s 12= .var (eS { x with b:=q.2 })/\st.s 13=li q.1) (fun q=>s.ord.length - q.1) (0,x.b) ⟨by simp,by simp,fun j hj=>by omega,.inl rfl,by simpa using h⟩ ?_
 clear h
 rintro ⟨j,t⟩ st K ⟨hj,h1,h2,h3,h⟩ hK
 simp only [eS,eSn] at hj h1 h2 h3 h
 by_cases c:j < s.ord.length
 ·have hx:=hord _ (List.getElem_mem c)
  obtain ⟨i,hi⟩:∃ i:Nat,s.ord[j]=i:=⟨s.ord[j].toNat,by omega⟩
  rw [hi] at hx
  have hin:i < g.nodes.length:=by omega
  have hu:d4a g s.ord k j↔(k:Int)∈g.nodes[i].ins:=by
   unfold d4a; rw [a8d c,hi,Int.toNat_natCast,a8d hin]
  have hfi:=hf _ (List.getElem_mem hin)
  simp (disch:=omega) [go_sem,a3s,h,c]
  refine a0b ?_
  simp (disch:=omega) [go_sem,h,c,hi,hin]
  refine a0m (d5c G g.nodes[i].ins k hfi) rfl rfl (by simp) [77] (by simp) (by simp (disch:=omega) [go_sem]) ?_
  simp (disch:=omega) [go_sem,h,c,hi,hin]
  refine a0d (by decide) fun s2 hs2 hep=> ?_
  by_cases hm:(k:Int)∈g.nodes[i].ins
  ·simp (disch:=omega) [go_sem,hs2,hep,h,hm]
   refine hK (j+1,max t j) _ ⟨by simp only; omega,by simp only; omega,fun a ha hb=> ?_,?_,by simp (disch:=omega) [go_sem,hs2,hep,h,eS,eSn,b0q]⟩ (by simp only; omega)
   ·simp only at ha ⊢
    rcases Nat.lt_or_ge a j with h4 | h4
    ·have:=h2 a h4 hb; omega
    ·omega
   ·simp only
    by_cases c2:t<=j
    ·exact .inr ⟨j,by omega,hu.2 hm,by omega⟩
    ·rcases h3 with h3 | ⟨a,h4,h5,h6⟩
     ·left; omega
     ·exact .inr ⟨a,by omega,h5,by omega⟩
  ·simp (disch:=omega) [go_sem,hs2,hep,h,hm]
   refine hK (j+1,t) _ ⟨by simp only; omega,h1,fun a ha hb=> ?_,?_,by simp (disch:=omega) [go_sem,hs2,hep,h,eS,eSn]⟩ (by simp only; omega)
   ·simp only at ha ⊢
    rcases Nat.lt_or_ge a j with h4 | h4
    ·exact h2 a h4 hb
    ·obtain rfl:a=j:=by omega
     exact absurd (hu.1 hb) hm
   ·rcases h3 with h3 | ⟨a,h4,h5,h6⟩
    ·exact .inl h3
    ·exact .inr ⟨a,by simp only; omega,h5,h6⟩
 ·have:j=s.ord.length:=by omega
  subst this
  simp (disch:=omega) [go_sem,a3s,h]
  exact hex t _ h1 h2 h3 (by simp (disch:=omega) [go_sem,h,eS,eSn])
structure LvH (g:Gr) (s:Sn):Prop where
 n64:g.nodes.length<=64
 ins:∀ n∈g.nodes,n.ins.length < 2 ^ 62
 rng:∀ x∈s.ord,0<=x/\x < (g.nodes.length:Int)
 ol:s.ord.length=g.nodes.length
 nd:s.ord.Nodup
 all:∀ x,x < g.nodes.length->(x:Int)∈s.ord
 dl:s.descs.length=g.nodes.length
 sh:∀ d∈s.descs,d.shape.length < 2 ^ 62
 inp:∀ i,i < g.nodes.length->g.nodes[i]!.op=1->s.descs[i]! =s.hin
def lvF (g:Gr) (s:Sn) (k:Nat):Sp:=d34 g s.descs (atI s.ord g.nodes.length) k (a89 g)[k]!
theorem e3j {g:Gr} {s:Sn} (H:LvH g s) {p k:Nat} (hp:p < s.ord.length) (hk:s.ord[p]! =(k:Int)) {t:Int} (h1:(p:Int)<=t) (h2:∀ j,j < s.ord.length->d4a g s.ord k j->(j:Int)<=t) (h3:t=p\/∃ j,j < s.ord.length/\d4a g s.ord k j/\t=j) :
  lvF g s k=⟨p,if (k:Int)=g.out then g.nodes.length else t,0,upI (a27 s.descs[k]!.shape s.descs[k]!.wide)⟩:=by
 have hkl:k < g.nodes.length:=by
  have:=H.rng _ (List.getElem_mem hp)
  rw [a8d hp] at hk
  omega
 have hat:∀ q,q < s.ord.length->(atI s.ord g.nodes.length)[(s.ord[q]!).toNat]! =(q:Int):=by
  intro q hq
  have:=c8m (k:=0) (a:=List.replicate g.nodes.length 0) H.nd (fun x hx=>by simpa using H.rng x hx) hq
  simpa [atI] using this
 have ha:(atI s.ord g.nodes.length)[k]! =(p:Int):=by
  have:=hat p hp
  rw [hk,Int.toNat_natCast] at this
  exact this
 have hmem:∀ u,u∈(a89 g)[k]! ↔∃ m,m < g.nodes.length/\u=(m:Int)/\(k:Int)∈g.nodes[m]!.ins:=by
  intro u
  rw [c3q hkl,d46]
  simp only [List.length_map,Nat.zero_add]
  constructor
  ·rintro ⟨m,a,b,c⟩
   refine ⟨m,a,b,?_⟩
   rw [a8d (by simpa using a),List.getElem_map] at c
   rw [a8d a]; exact c
  ·rintro ⟨m,a,b,c⟩
   refine ⟨m,a,b,?_⟩
   rw [a8d a] at c
   rw [a8d (by simpa using a),List.getElem_map]; exact c
 have hpos:∀ m,m < g.nodes.length->∃ q,q < s.ord.length/\s.ord[q]! =(m:Int):=by
  intro m hm
  obtain ⟨q,hq,e⟩:=List.mem_iff_getElem.1 (H.all m hm)
  exact ⟨q,hq,by rw [a8d hq]; exact e⟩
 unfold lvF d34
 rw [ha]
 have hto:d09 (atI s.ord g.nodes.length) (p:Int) (a89 g)[k]! =t:=by
  refine c6p h1 (fun u hu=> ?_) ?_
  ·obtain ⟨m,m1,rfl,m2⟩:=(hmem u).1 hu
   obtain ⟨q,q1,q2⟩:=hpos m m1
   have:=hat q q1
   rw [q2,Int.toNat_natCast] at this
   rw [Int.toNat_natCast,this]
   exact h2 q q1 (by unfold d4a; rw [q2,Int.toNat_natCast]; exact m2)
  ·rcases h3 with h | ⟨j,j1,j2,j3⟩
   ·exact .inl h
   ·right
    have hr:=H.rng _ (List.getElem_mem j1)
    rw [<-a8d j1] at hr
    refine ⟨s.ord[j]!,(hmem _).2 ⟨(s.ord[j]!).toNat,by omega,by omega,j2⟩,?_⟩
    rw [hat j j1]; exact j3
 rw [hto]
theorem d49 {sh:List Int} {w:Bool}:upI (a27 sh w)=(a27 sh w+3) / 4*4:=by
 have:=a5x sh
 unfold upI
 rw [if_neg (by unfold a27; split<;>omega)]
theorem c9y {g:Gr} {s:Sn} {k:Nat}:(lvF g s k).len=upI (a27 s.descs[k]!.shape s.descs[k]!.wide):=rfl
theorem f00 {g:Gr} {s:Sn} (H:LvH g s)
  (h:st.s 1= .var [slN g.nodes,li g.out]/\st.s 2=owS []/\st.s 3=li 0/\st.s 4= .var [li 0,lb false,li 0]/\st.s 5= .var (eSn s)/\st.s 7=owS (List.replicate g.nodes.length sp0)/\st.s 8= .var [li (-1),li (-1),li 0,li 4]/\st.s 9=lb false/\st.s 10=li 0)
  (hex:∀ s':St,s'.s 1= .var [slN g.nodes,li g.out]/\s'.s 2=owS []/\s'.s 3=li 0/\s'.s 4= .var [li 0,lb false,li 0]/\s'.s 5= .var (eSn s)/\s'.s 7=owS (a3b g s).1/\s'.s 8= .var (eS (a3b g s).2)/\s'.s 9=lb (c1w g s.ord)->Q (.exit 0) s'):AW pg G 196 (.loop a3t) Q st:=by
 have hsp:=d7y (g:=g) (ds:=s.descs) (a:=atI s.ord g.nodes.length) (uss:=a89 g) (N:=g.nodes.length) (LEN:=upI (a27 s.hin.shape s.hin.wide)) a9a (F:=lvF g s) (fun i hi=>rfl) (fun i hi hop=>by rw [c9y,H.inp i hi hop])
 refine a0u (Nat×List Sp×Sp) (fun q st=>q.1<=s.ord.length/\q.2.1.length=g.nodes.length/\(∀ p,p < q.1->q.2.1[(s.ord[p]!).toNat]! =lvF g s (s.ord[p]!).toNat)/\PIn g (lvF g s) (upI (a27 s.hin.shape s.hin.wide)) (fun k=>∃ p,p < q.1/\s.ord[p]! =(k:Int)) q.2.2/\st.s 1= .var [slN g.nodes,li g.out]/\st.s 2=owS []/\st.s 3=li 0/\st.s 4= .var [li 0,lb false,li 0]/\st.s 5= .var (eSn s)/\st.s 7=owS q.2.1/\st.s 8= .var (eS q.2.2)/\st.s 9=lb (c1w g (s.ord.take q.1))/\st.s 10=li q.1) (fun q=>s.ord.length - q.1) (0,List.replicate g.nodes.length sp0,⟨-1,-1,0,4⟩) ⟨by simp,by simp,fun p hp=>by omega,PIn.zero (fun k=>by rintro ⟨p,hp,_⟩; omega),by simpa [eS,c1w] using h⟩ ?_
 clear h
 rintro ⟨p,arr,inn⟩ st K ⟨hp,hal,hF,hP,h⟩ hK
 simp only at hp hal hF hP h
 have hol:=H.ol
 have hl64:=H.n64
 by_cases c:p < s.ord.length
 ·have hx:=H.rng _ (List.getElem_mem c)
  obtain ⟨k,hk⟩:∃ k:Nat,s.ord[p]=k:=⟨s.ord[p].toNat,by omega⟩
  have hk! :s.ord[p]! =(k:Int):=by rw [a8d c]; exact hk
  rw [hk] at hx
  have c1:k < g.nodes.length:=by omega
  have c2:k < s.descs.length:=by rw [H.dl]; exact c1
  have c3:k < arr.length:=by omega
  have hsd:=H.sh _ (List.getElem_mem c2)
  have hsz:=e5l (G:=G) s.descs[k].shape s.descs[k].wide hsd
  have hel:=a5x s.descs[k].shape
  have hby:0<=a27 s.descs[k].shape s.descs[k].wide/\a27 s.descs[k].shape s.descs[k].wide<=65536:=by unfold a27; split<;>omega
  have hup:=d49 (sh:=s.descs[k].shape) (w:=s.descs[k].wide)
  have hdk:s.descs[k]! =s.descs[k]:=a8d c2
  have htake:s.ord.take (p+1)=s.ord.take p++[(k:Int)]:=by rw [List.take_succ_eq_append_getElem c,hk]
  generalize hdv:s.descs[k]=d at *
  generalize hnb:a27 d.shape d.wide=nb at *
  have hq:(nb+3).tdiv 4=(nb+3) / 4:=Int.tdiv_eq_ediv_of_nonneg (by omega)
  simp only [eSn] at h
  generalize hsm:c1w g (s.ord.take p)=some at *
  simp (disch:=omega) [go_sem,a3t,h,c,hk,c2,hdv]
  refine a0c hsz rfl rfl ?_
  simp (disch:=omega) [go_sem,h,c,hk,c2,hdv,hq]
  refine f0z (g:=g) (s:=s) (arr:=arr) (inn:=inn) (some:=some) (p:=p) (k:=k) (x:=⟨p,p,0,(nb+3) / 4*4⟩) H.n64 H.ins H.rng (by rw [H.ol]; exact H.n64) (by simp (disch:=omega) [go_sem,h,hk,eS,eSn,hdv,hq]) (fun t s3 t1 t2 t3 h3=> ?_)
  simp only [eS,eSn] at h3
  have hFk:=e3j H c hk! t1 t2 t3
  rw [hdk,hnb,hup] at hFk
  have hstep:=hP.step (S':=fun j=>∃ q,q < p+1/\s.ord[q]! =(j:Int)) (k:=k) (fun j=>⟨fun ⟨q,q1,q2⟩=>by
   rcases Nat.lt_or_ge q p with h4 | h4
   ·exact .inl ⟨q,h4,q2⟩
   ·obtain rfl:q=p:=by omega
    right; omega,fun hj=>by
   rcases hj with ⟨q,q1,q2⟩ | rfl
   ·exact ⟨q,by omega,q2⟩
   ·exact ⟨p,by omega,hk!⟩⟩) (fun hop=>by rw [c9y,H.inp k c1 hop])
  have hF2:∀ q,q < p+1->(arr.set k (lvF g s k))[(s.ord[q]!).toNat]! =lvF g s (s.ord[q]!).toNat:=by
   intro q hq
   rw [get!_set c3]
   by_cases e:(s.ord[q]!).toNat=k
   ·rw [if_pos e,e]
   ·rw [if_neg e]
    rcases Nat.lt_or_ge q p with h4 | h4
    ·exact hF q h4
    ·obtain rfl:q=p:=by omega
     rw [hk!] at e; exact absurd rfl e
  have hany:c1w g (s.ord.take (p+1))=(some||decide (g.nodes[k].op=1)):=by
   rw [htake,<-hsm]
   unfold c1w
   rw [List.any_append]
   simp [c1]
  rw [hFk] at hF2 hstep
  rw [a8d c1] at hstep
  by_cases ho:(k:Int)=g.out
  ·rw [if_pos ho] at hF2 hstep
   by_cases hop:g.nodes[k].op=1
   ·rw [if_pos hop] at hstep
    simp (disch:=omega) [go_sem,h3,c1,ho.symm,hop]
    exact hK (p+1,arr.set k _,_) _ ⟨by simp only; omega,by simpa using hal,hF2,hstep,by simp (disch:=omega) [go_sem,h3,hany,hop,eS,eSn,d21,b16,c3,b0q]⟩ (by simp only; omega)
   ·rw [if_neg hop] at hstep
    simp (disch:=omega) [go_sem,h3,c1,ho.symm,hop]
    exact hK (p+1,arr.set k _,_) _ ⟨by simp only; omega,by simpa using hal,hF2,hstep,by simp (disch:=omega) [go_sem,h3,hany,hop,eS,eSn,b16,c3]⟩ (by simp only; omega)
  ·rw [if_neg ho] at hF2 hstep
   by_cases hop:g.nodes[k].op=1
   ·rw [if_pos hop] at hstep
    simp (disch:=omega) [go_sem,h3,c1,ho,hop]
    exact hK (p+1,arr.set k _,_) _ ⟨by simp only; omega,by simpa using hal,hF2,hstep,by simp (disch:=omega) [go_sem,h3,hany,hop,eS,eSn,d21,b16,c3,b0q]⟩ (by simp only; omega)
   ·rw [if_neg hop] at hstep
    simp (disch:=omega) [go_sem,h3,c1,ho,hop]
    exact hK (p+1,arr.set k _,_) _ ⟨by simp only; omega,by simpa using hal,hF2,hstep,by simp (disch:=omega) [go_sem,h3,hany,hop,eS,eSn,b16,c3]⟩ (by simp only; omega)
 ·have:p=s.ord.length:=by omega
  subst this
  have hpos:∀ m,m < g.nodes.length->∃ q,q < s.ord.length/\s.ord[q]! =(m:Int):=by
   intro m hm
   obtain ⟨q,hq,e⟩:=List.mem_iff_getElem.1 (H.all m hm)
   exact ⟨q,hq,by rw [a8d hq]; exact e⟩
  have e1:arr=(a3b g s).1:=by
   unfold a3b
   rw [hsp.1]
   refine List.ext_getElem (by simp [hal]) (fun k h1 h2=> ?_)
   obtain ⟨q,q1,q2⟩:=hpos k (by omega)
   have:=hF q q1
   rw [q2,Int.toNat_natCast,a8d h1] at this
   rw [this]; simp
  have e2:inn=(a3b g s).2:=by
   refine hP.eq (y:=(a3b g s).2) ?_
   have h1:=hsp.2
   refine ⟨h1.a,h1.off,h1.low,fun k hk hop=> ?_,?_,?_⟩
   ·obtain ⟨q,q1,q2⟩:=hk
    have hr:=H.rng _ (List.getElem_mem q1)
    rw [a8d q1] at q2
    exact h1.ge k (by omega) hop
   ·rcases h1.at_ with h | ⟨k,k1,k2,k3⟩
    ·exact .inl h
    ·exact .inr ⟨k,hpos k k1,k2,k3⟩
   ·rcases h1.len with ⟨k1,k2⟩ | ⟨⟨k,k1,k2⟩,k3⟩
    ·refine .inl ⟨fun k hk=> ?_,k2⟩
     obtain ⟨q,q1,q2⟩:=hk
     have hr:=H.rng _ (List.getElem_mem q1)
     rw [a8d q1] at q2
     exact k1 k (by omega)
    ·exact .inr ⟨⟨k,hpos k k1,k2⟩,k3⟩
  rw [List.take_length] at h
  rw [<-e1,<-e2] at hex
  simp (disch:=omega) [go_sem,a3t,h,eSn]
  exact hex _ (by simp (disch:=omega) [go_sem,h])
theorem f01 {g:Gr} {s:Sn} {out:List Sp} {inn:Sp} {some:Bool} (hn:g.nodes.length<=64) (hlo:out.length=g.nodes.length) (hord:∀ x∈s.ord,0<=x/\x < (g.nodes.length:Int)) (hol:s.ord.length < 2 ^ 36)
  (h:st.s 1= .var [slN g.nodes,li g.out]/\st.s 2=owS []/\st.s 3=li 0/\st.s 4= .var [li 0,lb false,li 0]/\st.s 5= .var (eSn s)/\st.s 7=owS out/\st.s 8= .var (eS inn)/\st.s 9=lb some/\st.s 14=owS [inn]/\st.s 15=li 0)
  (hex:∀ s':St,s'.s 1= .var [slN g.nodes,li g.out]/\s'.s 2=owS []/\s'.s 3=li 0/\s'.s 4= .var [li 0,lb false,li 0]/\s'.s 5= .var (eSn s)/\s'.s 7=owS out/\s'.s 8= .var (eS inn)/\s'.s 9=lb some/\s'.s 14=owS (inn::b0a g out s.ord)->Q (.exit 4) s'):AW pg G 196 (.loop a2u) Q st:=by
 refine a0u (Nat×List Sp) (fun p st=>p.1<=s.ord.length/\p.2.length<=p.1+1/\p.2++b0a g out (s.ord.drop p.1)=inn::b0a g out s.ord/\st.s 1= .var [slN g.nodes,li g.out]/\st.s 2=owS []/\st.s 3=li 0/\st.s 4= .var [li 0,lb false,li 0]/\st.s 5= .var (eSn s)/\st.s 7=owS out/\st.s 8= .var (eS inn)/\st.s 9=lb some/\st.s 14=owS p.2/\st.s 15=li p.1) (fun p=>s.ord.length - p.1) (0,[inn]) ⟨by simp,by simp,rfl,by simpa using h⟩ ?_
 clear h
 rintro ⟨j,l⟩ st K ⟨hj,hll,hm,h⟩ hK
 simp only [eSn] at hj hll hm h
 by_cases c:j < s.ord.length
 ·have hx:=hord _ (List.getElem_mem c)
  obtain ⟨i,hi⟩:∃ i:Nat,s.ord[j]=i:=⟨s.ord[j].toNat,by omega⟩
  rw [hi] at hx
  have c1:i < g.nodes.length:=by omega
  have c2:i < out.length:=by omega
  rw [List.drop_eq_getElem_cons c,b0a,hi,Int.toNat_natCast,a8d c1,a8d c2] at hm
  by_cases hop:g.nodes[i].op=1
  ·rw [if_pos hop] at hm
   simp (disch:=omega) [go_sem,a2u,h,c]
   refine a0b ?_
   simp (disch:=omega) [go_sem,h,c,hi,c1,hop]
   refine a0d (by decide) fun s2 hs2 hep=> ?_
   simp (disch:=omega) [go_sem,hs2,hep,h]
   exact hK (j+1,l) _ ⟨by simp only; omega,by simp only; omega,hm,by simp (disch:=omega) [go_sem,hs2,hep,h,eSn]⟩ (by simp only; omega)
  ·rw [if_neg hop] at hm
   simp (disch:=omega) [go_sem,a2u,h,c]
   refine a0b ?_
   simp (disch:=omega) [go_sem,h,c,hi,c1,hop]
   refine a0d (by decide) fun s2 hs2 hep=> ?_
   have f:s2.s 1= .var [slN g.nodes,li g.out]/\s2.s 2=owS []/\s2.s 3=li 0/\s2.s 4= .var [li 0,lb false,li 0]/\s2.s 5= .var (eSn s)/\s2.s 7=owS out/\s2.s 8= .var (eS inn)/\s2.s 9=lb some/\s2.s 14=owS l/\s2.s 15=li j/\s2.s 130=lb true:=by
    refine ⟨?_,?_,?_,?_,?_,?_,?_,?_,?_,?_,?_⟩<;>simp (disch:=omega) [go_sem,hs2,h,eSn,hop]
   clear hs2 hep h
   simp only [eSn] at f
   simp (disch:=omega) [go_sem,f,c,hi,c1,c2]
   exact hK (j+1,l++[out[i]]) _ ⟨by simp only; omega,by simp; omega,by simpa using hm,by simp (disch:=omega) [go_sem,f,eSn,b17,a9v,eS]⟩ (by simp only; omega)
 ·have:j=s.ord.length:=by omega
  subst this
  rw [List.drop_length,b0a,List.append_nil] at hm
  subst hm
  simp (disch:=omega) [go_sem,a2u,h]
  exact hex _ (by simp (disch:=omega) [go_sem,h,eSn])
theorem f02 {g:Gr} {s:Sn} {out:List Sp} {inn:Sp} {offs:List Int} {n:Int} {some:Bool} (hn:g.nodes.length<=64) (hlo:out.length=g.nodes.length) (hord:∀ x∈s.ord,0<=x/\x < (g.nodes.length:Int)) (hol:s.ord.length < 2 ^ 36) (hof:offs.length=1+(b0a g out s.ord).length)
  (h:st.s 1= .var [slN g.nodes,li g.out]/\st.s 2=owS []/\st.s 3=li 0/\st.s 4= .var [li 0,lb false,li 0]/\st.s 5= .var (eSn s)/\st.s 7=owS out/\st.s 8= .var (eS inn)/\st.s 9=lb some/\st.s 16=owI offs/\st.s 17=li n/\st.s 18=li 1/\st.s 19=li 0)
  (hex:∀ s':St,(s'.s 4= .var [li 0,lb false,li 0]/\s'.s 7=owS (a6d g inn offs out 1 true s.ord).1/\s'.s 8= .var (eS inn)/\s'.s 9=lb some/\s'.s 17=li n)/\(a6d g inn offs out 1 true s.ord).1.length=out.length->Q (.exit 6) s'):AW pg G 196 (.loop a2v) Q st:=by
 refine a0u (Nat×List Sp×Nat×Bool) (fun p st=>p.1<=s.ord.length/\p.2.1.length=g.nodes.length/\p.2.2.1+(b0a g out (s.ord.drop p.1)).length=offs.length/\a6d g inn offs p.2.1 p.2.2.1 p.2.2.2 (s.ord.drop p.1)=a6d g inn offs out 1 true s.ord/\st.s 1= .var [slN g.nodes,li g.out]/\st.s 2=owS []/\st.s 3=li 0/\st.s 4= .var [li 0,lb false,li 0]/\st.s 5= .var (eSn s)/\st.s 7=owS p.2.1/\st.s 8= .var (eS inn)/\st.s 9=lb some/\st.s 16=owI offs/\st.s 17=li n/\st.s 18=li p.2.2.1/\st.s 19=li p.1) (fun p=>s.ord.length - p.1) (0,out,1,true) ⟨by simp,hlo,by simp [hof],rfl,by simpa using h⟩ ?_
 clear h
 have hsl:=b75 (g:=g) (o1:=out) (is:=s.ord)
 rintro ⟨j,o,k,b⟩ st K ⟨hj,hl,hk,hm,h⟩ hK
 simp only [eSn] at hj hl hk hm h
 by_cases c:j < s.ord.length
 ·have hx:=hord _ (List.getElem_mem c)
  obtain ⟨i,hi⟩:∃ i:Nat,s.ord[j]=i:=⟨s.ord[j].toNat,by omega⟩
  rw [hi] at hx
  have c1:i < g.nodes.length:=by omega
  have c2:i < o.length:=by omega
  rw [List.drop_eq_getElem_cons c,a6d,hi,Int.toNat_natCast,a8d c1,a8d c2] at hm
  rw [List.drop_eq_getElem_cons c,b0a,hi,Int.toNat_natCast,a8d c1] at hk
  by_cases hop:g.nodes[i].op=1
  ·rw [if_pos hop] at hm hk
   simp (disch:=omega) [go_sem,a2v,h,c,hi,c1,c2,hop,eS]
   exact hK (j+1,o.set i inn,k,false) _ ⟨by simp only; omega,by simpa using hl,hk,hm,by simp (disch:=omega) [go_sem,h,c2,eS,eSn,b16]⟩ (by simp only; omega)
  ·rw [if_neg hop,List.length_cons] at hk
   have c3:k < offs.length:=by omega
   rw [if_neg hop,a8d c3] at hm
   simp (disch:=omega) [go_sem,a2v,h,c,hi,c1,c2,c3,hop]
   exact hK (j+1,o.set i { o[i] with off:=offs[k] },k+1,b) _ ⟨by simp only; omega,by simpa using hl,by simp only; omega,hm,by simp (disch:=omega) [go_sem,h,c2,eSn,c8z]⟩ (by simp only; omega)
 ·have:j=s.ord.length:=by omega
  subst this
  rw [List.drop_length,a6d] at hm
  rw [<-hm] at hex
  simp (disch:=omega) [go_sem,a2v,h]
  exact hex _ ⟨by simp (disch:=omega) [go_sem,h],by simp only; omega⟩
theorem d01 {g:Gr} {ds:List Ds} {a:List Int}:∀ {us:List (List Int)} {i:Nat} {out:List Sp} {inn:Sp},(∀ x∈out,x.len < 2 ^ 30)->inn.len < 2 ^ 30->(∀ x∈(b8l g ds a i us out inn).1,x.len < 2 ^ 30)/\(b8l g ds a i us out inn).2.len < 2 ^ 30
 | [],_,_,_,h,h2=>⟨h,h2⟩
 | u::us,i,out,inn,h,h2=>by
  rw [b8l]
  have hb:(d34 g ds a i u).len < 2 ^ 30:=by
   show upI (a27 _ _) < _
   rw [d49]
   have:=a5x ds[i]!.shape
   unfold a27; split<;>omega
  refine d01 (fun x hx=> ?_) ?_
  ·rcases List.mem_append.1 hx with hx | hx
   ·exact h x hx
   ·simp at hx; rw [hx]; exact hb
  ·split
   ·exact hb
   ·exact h2
theorem e2i {e:Er} (h:e.wb) (hn:e.isNil=false):e.flt.1≠0:=fun h2=>by
 have:=(e9n h).1 h2
 rw [hn] at this; cases this
theorem d68 (g:Gr) (hf:∀ n∈g.nodes,n.sh) (hn:g.nodes.length < 2 ^ 36) (hwb:(ofR g).2.wb) (hok:(ofR g).2.isNil=true->LvH g (ofR g).1):ACalls pg G b4k [d1i g] (.tup [owS (b2s g).1.1,li (b2s g).1.2,fE (b2s g).2]):=by
 refine b1p rfl ?_
 simp (disch:=omega) [go_sem,a8r]
 have ho:=f2c (G:=G) g hf hn
 rw [b2s]
 generalize hr:ofR g=r at *
 obtain ⟨s,e⟩:=r
 simp only at hok hwb ho ⊢
 refine a0g ho (by simp [go_sem,eSn,a0p]) (by simp (disch:=omega) [go_sem]) ?_
 cases he:e.isNil with
 | false=>
  have hz:=e2i hwb he
  simp (disch:=omega) [go_sem,eSn,hz]
  refine a0b ?_
  simp (disch:=omega) [go_sem,hz]
  refine a0d (by decide) fun s2 hs2 hep=> ?_
  simp (disch:=omega) [go_sem,hs2,hep,a5s,a0f]
 | true=>
  have H:=hok he
  obtain rfl:e= .nil:=a49.1 he
  simp (disch:=omega) [go_sem,eSn,Er.flt,c5e]
  refine f00 H (by simp (disch:=omega) [go_sem,eSn,c5e,a5s,a0f]) (fun s1 h1=> ?_)
  simp only [c2s]
  have hso:(a3b g s).1.length=g.nodes.length:=by rw [a3b,b6p,a9a]; simp
  have hsr:=d01 (g:=g) (ds:=s.descs) (a:=atI s.ord g.nodes.length) (us:=a89 g) (i:=0) (out:=[]) (inn:=⟨-1,-1,0,4⟩) (by simp) (by simp)
  rw [<-a3b] at hsr
  generalize a3b g s=q at *
  obtain ⟨out,inn⟩:=q
  simp only [eSn,eS] at hso hsr h1 ⊢
  generalize hsm:c1w g s.ord=some at *
  have hol:=H.ol
  have hl:=H.n64
  simp (disch:=omega) [go_sem,h1]
  refine f01 (g:=g) (s:=s) (out:=out) (inn:=inn) (some:=some) hl hso H.rng (by omega) (by simp (disch:=omega) [go_sem,h1,eSn,eS,a9v]) (fun s2 h2=> ?_)
  simp only [eSn,eS] at h2
  have hmem:∀ x∈inn::b0a g out s.ord,x.len < 2 ^ 30:=by
   intro x hx
   rcases List.mem_cons.1 hx with hx | hx
   ·rw [hx]; exact hsr.2
   ·exact hsr.1 x (b6o (fun i hi=>by have:=H.rng i hi; omega) x hx)
  have hsl:=b75 (g:=g) (o1:=out) (is:=s.ord)
  have hpl:(a5k (inn::b0a g out s.ord)).1.length=1+(b0a g out s.ord).length:=by rw [a5k,c0w]; simp; omega
  have spec:=d3q (G:=G) (inn::b0a g out s.ord) (by simp; omega) hmem
  generalize inn::b0a g out s.ord=ll at *
  generalize a5k ll=p at *
  obtain ⟨offs,n⟩:=p
  simp only at hpl spec ⊢
  simp (disch:=omega) [go_sem,h2]
  refine a5w spec (by simp [go_sem,a0p]) ?_ ?_
  all_goals
   by_cases hn6:65536 < n
   ·simp (disch:=omega) [go_sem,h2,hn6]
    refine a0c (b6z 106) rfl rfl ?_
    simp (disch:=omega) [go_sem,h2,hn6,a5s,a0f,Er.flt]
    decide
   ·have c0:0 < offs.length:=by omega
    simp (disch:=omega) [go_sem,h2,hn6,c0]
    refine f02 (g:=g) (s:=s) (out:=out) (inn:={ inn with off:=offs[0] }) (offs:=offs) (n:=n) (some:=some) hl hso H.rng (by omega) hpl (by simp (disch:=omega) [go_sem,h2,eS,eSn,c0]) (fun s3 h3=> ?_)
    obtain ⟨h3,h3l⟩:=h3
    have hsn:=b71 (g:=g) (inn:={ inn with off:=offs[0] }) (offs:=offs) (is:=s.ord) (out:=out) (k:=1) (b:=true)
    have hb:(a6d g { inn with off:=offs[0] } offs out 1 true s.ord).2= !some:=by
     rw [hsn,<-hsm,Bool.true_and,c1w,List.any_eq_not_all_not,Bool.not_not]
     congr 1
     funext i
     simp
    rw [e8c,a8d c0,hb]
    generalize a6d g { inn with off:=offs[0] } offs out 1 true s.ord=pg2 at *
    obtain ⟨o2,b⟩:=pg2
    simp only [eS] at h3 h3l ⊢
    have hta:∀ vs:List AV,vs.length=4->(fm eS o2++vs).take ((o2.length+1)*4)=fm eS o2++vs:=fun vs hv=>List.take_of_length_le (by rw [List.length_append,c2a,hv]; omega)
    cases some
    ·simp (disch:=omega) [go_sem,h3]
     refine a0c (b7r G) rfl rfl ?_
     simp (disch:=omega) [go_sem,h3,b17,a9v,eS,hta,a0f,Er.flt]
     exact hta _ rfl
    ·simp (disch:=omega) [go_sem,h3]
     refine a0c (b7r G) rfl rfl ?_
     simp (disch:=omega) [go_sem,h3,a0f,Er.flt]
end
end Go.Ideal.Tryz
end
section
namespace Go.Ideal.Tryz
theorem d0p {n:Nat} {e:Int}:b9o (n+1) e false=b9o n e false++[opN 8 [(n:Int)] []]:=by
 simp [b9o,List.range_succ]
theorem c5g {n:Nat} {e:Int} {k:Bool}:∀ x∈b9o n e k,x.sh/\x.ins.length<=2:=by
 intro x hx
 unfold b9o at hx
 simp only [List.mem_append,List.mem_cons,List.mem_map,List.mem_range] at hx
 rcases hx with (rfl | ⟨i,_,rfl⟩) | hx
 ·exact ⟨⟨by simp [inN],by simp [inN],by simp [inN],by simp [inN]⟩,by simp [inN]⟩
 ·exact ⟨⟨by simp [opN],by simp [opN],by simp [opN],by simp [opN]⟩,by simp [opN]⟩
 ·split at hx
  ·simp at hx
   subst hx
   exact ⟨⟨by simp [opN],by simp [opN],by simp [opN],by simp [opN]⟩,by simp [opN]⟩
  ·simp at hx
section
variable {G:GG} {bk:Nat->Nat×Nat} {Q:Exit->St->Prop} {st:St}
theorem fv1:(b2s (d44 6 3 false)).1.2=8:=by kernel_rfl
theorem fv2:(b2s (d44 6 3 false)).2= .nil:=by kernel_rfl
theorem d69 (hS:SentO G bk) (hA:Around G bk):∃ l:List Sp,ACalls pg G c1e [d1i (d44 6 3 false)] (.tup [owS l,li 8,.lit .nilIface]):=by
 have hlen:=c0y (n:=6) (e:=3) (k:=false)
 have ht:tot ((d44 6 3 false).nodes.map (·.ins))<=2*((d44 6 3 false).nodes.map (·.ins)).length:=d48 (fun r hr=>by
  obtain ⟨x,hx,rfl⟩:=List.mem_map.1 hr
  exact (c5g x hx).2)
 have hl2:(d44 6 3 false).nodes.length=7:=by
  show (b9o 6 3 false).length=7
  rw [hlen]; rfl
 rw [List.length_map,hl2] at ht
 have:=e3g hS hA (d44 6 3 false) (fun x hx=>(c5g x hx).1) (by omega) (by omega) (fun hnil=>by
  obtain ⟨a1,a2,a3,a4,a5,a6,a7,a8,a9⟩:=c6f (fun x hx=>(c5g x hx).1) hnil
  exact ⟨a1,a4,by omega,a6,fun d hd=>by have:=a7 d hd; omega⟩)
 rw [fv1,fv2] at this
 exact ⟨_,by simpa [a05] using this⟩
theorem d2g (h:st.s 1= .var [.own 6 1 (fm c68 (b9o 0 3 false)),li 0]/\st.s 2=li 0)
  (hex:∀ s:St,s.s 1= .var [.own 6 7 (fm c68 (b9o 6 3 false)),li 0]->Q (.exit 0) s):AW pg G 35 (.loop a3f) Q st:=by
 refine a0u Nat (fun j st=>j<=6/\st.s 1= .var [.own 6 (j+1) (fm c68 (b9o j 3 false)),li 0]/\st.s 2=li j) (fun j=>6 - j) 0 ⟨by omega,h⟩ ?_
 clear h
 rintro j st K ⟨hj,h⟩ hK
 have hlen:(b9o j 3 false).length=j+1:=by rw [c0y]; rfl
 have ht:(fm c68 (b9o j 3 false)).take ((j+1)*6)=fm c68 (b9o j 3 false):=by rw [<-hlen]; exact c83
 by_cases c:j < 6
 ·have c':(j:Int) < 6:=by omega
  simp (disch:=omega) [go_sem,a3f,h,c',ht,hlen]
  refine hK (j+1) _ ⟨by omega,?_⟩ (by omega)
  rw [d0p,b17,a9v]
  simp (disch:=omega) [go_sem,h,ht,hlen,c68,opN]
 ·obtain rfl:j=6:=by omega
  simp (disch:=omega) [go_sem,a3f,h]
  exact hex _ (by simp (disch:=omega) [go_sem,h])
theorem d56 (hS:SentO G bk) (hA:Around G bk):ACalls pg G b24 [] (lb true):=by
 obtain ⟨l,h1⟩:=d69 hS hA
 have hlen:(b9o 6 3 false).length=7:=by rw [c0y]; rfl
 simp only [d44,hlen] at h1
 refine b0t rfl ?_
 simp (disch:=omega) [go_sem,a7t]
 refine d2g (by simp (disch:=omega) [go_sem,b9o,inN,a9v,c68]) (fun s h=> ?_)
 generalize hv:fm c68 (b9o 6 3 false)=v at *
 have hz:a2z v=fm a5q (b9o 6 3 false):=by rw [<-hv]; exact d18
 have ht:v.take 42=v:=by rw [<-hv]; exact List.take_of_length_le (by rw [d19,hlen]; omega)
 simp (disch:=omega) [go_sem,h,hz,ht]
 refine a5w h1 (by simp [go_sem,a0p]) ?_ ?_<;>simp (disch:=omega) [go_sem,h]
end
end Go.Ideal.Tryz
end
