/- Part Qax of the proof: walks on a machine that is proved sound. -/
import Derived.Test.YtploijbaclgehaaDoorQaw
import Derived.Test.YtploijbaclgehaaDoorQah
import Derived.Test.YtploijbaclgehaaDoorQav
import Derived.Test.YtploijbaclgehaaDoorQaj
set_option linter.unusedVariables false
set_option linter.unusedSimpArgs false
set_option maxRecDepth 10000
section
namespace Go.Ideal.Tryd
section
variable {G:GG} {bk:Nat->Nat×Nat} {Q:Exit->St->Prop} {st:St}
theorem d2v {l:List Sp} {s:Sp} {os:List Int} {most:Int} {i:Nat} (hi:i<=l.length) (hl:l.length < 2 ^ 40) (hos:i<=os.length) (hol:os.length < 2 ^ 40) (hx:∀ x∈l,x.len < 2 ^ 63) (ho:∀ o∈os,0<=o/\o < 2 ^ 63) (hs:s.len < 2 ^ 63/\1<=s.len)
  (h:st.s 0=slS l/\st.s 4=owI os/\st.s 5=li most/\st.s 6=li i/\st.s 7= .var (eS s)/\st.s 8=li 0/\st.s 15=slS l/\st.s 16=li l.length/\st.s 17=li i)
  (hex:∀ s':St,s'.s 0=slS l/\s'.s 4=owI os/\s'.s 5=li most/\s'.s 6=li i/\s'.s 7= .var (eS s)/\s'.s 8=li (a49 s (l.take i) os c1b 0)/\s'.s 15=slS l/\s'.s 16=li l.length/\s'.s 17=li i->Q (.exit 2) s'):AW pg G 107 (.loop a71) Q st:=by
 have hds:(l.take i).length=i:=by simp; omega
 have hdx:∀ x∈l.take i,x.len < 2 ^ 63:=fun x hx2=>hx x (List.mem_of_mem_take hx2)
 have htk:=d1d hi
 generalize l.take i=ds at *
 refine a0x (Nat×Int) (fun p st=>(0<=p.2/\p.2 < 2 ^ 63)/\2 ^ 63 - p.2<=p.1/\a49 s ds os p.1 p.2=a49 s ds os c1b 0/\st.s 0=slS l/\st.s 4=owI os/\st.s 5=li most/\st.s 6=li i/\st.s 7= .var (eS s)/\st.s 8=li p.2/\st.s 15=slS l/\st.s 16=li l.length/\st.s 17=li i) (fun p=>p.1) (c1b,0) ⟨by omega,by simp [c1b],rfl,by simpa using h⟩ ?_
 clear h
 rintro ⟨n,off⟩ st K ⟨hoff,hn,hm,h⟩ hK
 simp only at hoff hn hm h
 obtain ⟨n,rfl⟩:∃ m,n=m+1:=⟨n - 1,by omega⟩
 rw [a49] at hm
 simp (disch:=omega) [go_sem,a71,h,hi,htk]
 refine d2u (ds:=ds) (s:=s) (os:=os) (off:=off) (most:=most) hds hl (by omega) hol hdx ho hs hoff (by simp (disch:=omega) [go_sem,h,hi,htk]) (fun o e s' h'=> ?_) (fun e s' h'=> ?_)
 ·rw [e] at hm
  have:=b4f hdx ho e
  simp (disch:=omega) [go_sem,h']
  exact hK (n,o) _ ⟨this.2,by simp only; omega,hm,by simp (disch:=omega) [go_sem,h']⟩ (by simp only; omega)
 ·rw [e] at hm
  simp only at hm
  simp (disch:=omega) [go_sem,h']
  exact hex _ (by simp (disch:=omega) [go_sem,h',<-hm])
theorem d28 {os:List Int} {k:Nat} {x:Int}:(os++List.replicate (k+1) (0:Int)).set os.length x=(os++[x])++List.replicate k 0:=by
 rw [List.set_append_right _ _ (Nat.le_refl _),Nat.sub_self,List.replicate_succ,List.set_cons_zero,List.append_assoc]; rfl
theorem d2w {l:List Sp} (hl:l.length < 2 ^ 40) (hx:∀ x∈l,x.len < 2 ^ 63)
  (h:st.s 0=slS l/\st.s 4=owI (List.replicate l.length 0)/\st.s 5=li 0/\st.s 15=slS l/\st.s 16=li l.length/\st.s 17=li 0)
  (hex:∀ s':St,s'.s 4=owI (a5n l).1/\s'.s 5=li (a5n l).2->Q (.exit 0) s'):AW pg G 107 (.loop a4b) Q st:=by
 refine a0x (Nat×List Int×List Int×Int) (fun p st=>p.1<=l.length/\p.2.1.length=p.1/\p.2.2.1=p.2.1++List.replicate (l.length - p.1) 0/\(∀ o∈p.2.1,0<=o/\o < 2 ^ 63)/\c81 c1b (l.take p.1) p.2.1 p.2.2.2 (l.drop p.1)=a5n l/\st.s 0=slS l/\st.s 4=owI p.2.2.1/\st.s 5=li p.2.2.2/\st.s 15=slS l/\st.s 16=li l.length/\st.s 17=li p.1) (fun p=>l.length - p.1) (0,[],List.replicate l.length 0,0) ⟨by simp,rfl,by simp,by simp,by simp [a5n],by simpa using h⟩ ?_
 clear h
 rintro ⟨i,os,offs,most⟩ st K ⟨hi,hol,hof,ho,hm,h⟩ hK
 simp only at hi hol hof ho hm h
 have hlo:offs.length=l.length:=by rw [hof]; simp; omega
 have hoo:∀ o∈offs,0<=o/\o < 2 ^ 63:=by
  intro o ho2
  rw [hof] at ho2
  rcases List.mem_append.1 ho2 with h2 | h2
  ·exact ho o h2
  ·rw [List.eq_of_mem_replicate h2]; omega
 by_cases c:i < l.length
 ·have hx1:=hx _ (List.getElem_mem c)
  rw [List.drop_eq_getElem_cons c,c81,<-List.take_succ_eq_append_getElem c] at hm
  have hds:os.length=(l.take i).length:=by simp; omega
  have hlk:a49 l[i] (l.take i) offs c1b 0=a49 l[i] (l.take i) os c1b 0:=by rw [hof]; exact c0a hds
  have hrg:=c0b (s:=l[i]) (xs:=l.take i) (os:=os) (n:=c1b) (off:=0) (fun x hx2=>hx x (List.mem_of_mem_take hx2)) ho (by omega)
  have hset:∀ x,offs.set i x=(os++[x])++List.replicate (l.length - (i+1)) 0:=by
   intro x
   rw [hof,show l.length - i=(l.length - (i+1))+1 by omega,<-hol]
   exact d28
  generalize hsv:l[i]=s at *
  by_cases c1:s.len < 1
  ·rw [if_pos c1] at hm
   have hn:¬ (1:Int)<=s.len:=by omega
   simp (disch:=omega) [go_sem,a4b,h,c,hsv,c1]
   refine hK (i+1,os++[0],offs,most) _ ⟨by simp only; omega,by simp [hol],?_,?_,hm,by simp (disch:=omega) [go_sem,h]⟩ (by simp only; omega)
   ·simp only
    rw [hof,show l.length - i=(l.length - (i+1))+1 by omega,List.replicate_succ]; simp
   ·intro o ho2
    rcases List.mem_append.1 ho2 with h2 | h2
    ·exact ho o h2
    ·simp at h2; omega
  ·rw [if_neg c1] at hm
   simp (disch:=omega) [go_sem,a4b,h,c,hsv,c1]
   refine d2v (l:=l) (s:=s) (os:=offs) (most:=most) (i:=i) (by omega) hl (by omega) (by omega) hx hoo ⟨hx1,by omega⟩ (by simp (disch:=omega) [go_sem,h,eS]) (fun s' h'=> ?_)
   rw [hlk] at h'
   generalize hlv:a49 s (l.take i) os c1b 0=off at *
   have spec:=d5j (G:=G) off s.len hrg ⟨by omega,hx1⟩
   have c2:i < offs.length:=by omega
   simp (disch:=omega) [go_sem,h',eS,c,c2]
   refine a0i spec rfl rfl ?_
   simp (disch:=omega) [go_sem,h',eS,c,c2]
   refine hK (i+1,os++[off],offs.set i off,max most (b5v off s.len)) _ ⟨by simp only; omega,by simp [hol],hset off,?_,hm,by simp (disch:=omega) [go_sem,h',eS,b7v]⟩ (by simp only; omega)
   intro o ho2
   rcases List.mem_append.1 ho2 with h2 | h2
   ·exact ho o h2
   ·simp at h2; omega
 ·have:i=l.length:=by omega
  subst this
  rw [List.drop_length,c81] at hm
  simp only [Nat.sub_self,List.replicate_zero,List.append_nil] at hof
  subst hof
  simp (disch:=omega) [go_sem,a4b,h]
  exact hex _ (by simp (disch:=omega) [go_sem,h,<-hm])
theorem d60 (l:List Sp) (hl:l.length < 2 ^ 40) (hx:∀ x∈l,x.len < 2 ^ 63):ACalls pg G b80 [slS l] (.tup [owI (a5n l).1,li (a5n l).2]):=by
 refine b4a rfl ?_
 simp (disch:=omega) [go_sem,b2h]
 refine d2w (l:=l) hl hx (by simp (disch:=omega) [go_sem]) (fun s' h'=> ?_)
 simp (disch:=omega) [go_sem,h']
end
end Go.Ideal.Tryd
end
section
namespace Go.Ideal.Tryd
attribute [local go_sem] eD
theorem b9q {xs:List Sp} {i:Nat} {a b o l:Int} (h:i < xs.length):a0h (fm eS xs) (i*4) [li a,li b,li o,li l]=fm eS (xs.set i ⟨a,b,o,l⟩):=b30 (f:=eS) (c:=4) (fun _=>rfl) ⟨a,b,o,l⟩ h
theorem b46 {α:Type} {os:List α} {k:Nat} {x z:α}:(os++List.replicate (k+1) z).set os.length x=(os++[x])++List.replicate k z:=by
 rw [List.set_append_right _ _ (Nat.le_refl _),Nat.sub_self,List.replicate_succ,List.set_cons_zero,List.append_assoc]; rfl
def sp0:Sp:=⟨0,0,0,0⟩
theorem d65 {n:Nat}:a61 n [li 0,li 0,li 0,li 0]=fm eS (List.replicate n sp0):=by
 induction n with
 | zero=>rfl
 | succ n ih=>rw [List.replicate_succ,a3h,<-ih]; simp [a61,List.replicate_succ,eS,sp0]
def d0b:Nat->List Int->List Int->List Int
 | _,a,[]=>a
 | k,a,i::is=>d0b (k+1) (a.set i.toNat k) is
def atI (ord:List Int) (n:Nat):List Int:=d0b 0 (List.replicate n 0) ord
def d0v (a:List Int):Int->List Int->Int
 | t,[]=>t
 | t,k::ks=>d0v a (max t a[k.toNat]!) ks
def d4f (g:Gr) (ds:List Ds) (a:List Int) (i:Nat) (us:List Int):Sp:=⟨a[i]!,if (i:Int)=g.out then g.nodes.length else d0v a a[i]! us,0,upI (a18 ds[i]!.shape ds[i]!.wide)⟩
def e4u (inn x:Sp):Sp:={ inn with b:=max inn.b x.b,len:=x.len }
def c03 (g:Gr) (ds:List Ds) (a:List Int):Nat->List (List Int)->List Sp->Sp->List Sp×Sp
 | _,[],out,inn=>(out,inn)
 | i,us::uss,out,inn=>c03 g ds a (i+1) uss (out++[d4f g ds a i us]) (if g.nodes[i]!.op=1 then e4u inn (d4f g ds a i us) else inn)
def a7q (g:Gr):List (List Int):=c6w (g.nodes.map (·.ins)) 0 (List.replicate g.nodes.length [])
def a4l (g:Gr) (s:Sn):List Sp×Sp:=c03 g s.descs (atI s.ord g.nodes.length) 0 (a7q g) [] ⟨-1,-1,0,4⟩
theorem c3u:∀ {k:Nat} {a is:List Int},(d0b k a is).length=a.length
 | _,_,[]=>rfl
 | k,a,i::is=>by rw [d0b,c3u,List.length_set]
theorem e8r {t:Nat}:∀ {rs:List (List Int)} {i:Nat},∀ x∈sp t rs i,x < (i:Int)+rs.length
 | [],i,x,h=>by simp [sp] at h
 | r::rs,i,x,h=>by
  rw [sp] at h
  rcases List.mem_append.1 h with h | h
  ·split at h<;>simp at h; simp; omega
  ·have:=e8r (rs:=rs) (i:=i+1) x h
   simp; omega
theorem a7r {g:Gr}:(a7q g).length=g.nodes.length:=by
 rcases Nat.eq_zero_or_pos g.nodes.length with h | h
 ·have:g.nodes=[]:=List.eq_nil_of_length_eq_zero h
  simp [a7q,this,c6w]
 ·have:=(b3r (t:=0) (rs:=g.nodes.map (·.ins)) (i:=0) (u:=List.replicate g.nodes.length []) (by simpa using h) (by simp [h])).2
  simpa [a7q] using this
theorem b5k {g:Gr} {t:Nat} (h:t < g.nodes.length):(a7q g)[t]! =sp t (g.nodes.map (·.ins)) 0:=by
 have:=(b3r (t:=t) (rs:=g.nodes.map (·.ins)) (i:=0) (u:=List.replicate g.nodes.length []) (by simpa using h) (by simp [h])).1
 simpa [a7q,h] using this
theorem c07 {g:Gr}:∀ r∈a7q g,r.length<=g.nodes.length/\∀ x∈r,0<=x/\x < (g.nodes.length:Int):=by
 intro r hr
 obtain ⟨t,ht,rfl⟩:=List.mem_iff_getElem.1 hr
 have h2:t < g.nodes.length:=by rw [<-a7r]; exact ht
 have e:=b5k h2
 rw [a3q ht] at e
 rw [e]
 refine ⟨by have:=d4g (t:=t) (rs:=g.nodes.map (·.ins)) (i:=0); simpa using this,fun x hx=> ?_⟩
 have h3:=e8q x hx
 have h4:=e8r x hx
 simp at h3 h4
 omega
section
variable {G:GG} {bk:Nat->Nat×Nat} {Q:Exit->St->Prop} {st:St}
theorem d29 {g:Gr} {s:Sn} {n:Nat} (hn:n<=64) (hord:∀ x∈s.ord,0<=x/\x < (n:Int)) (hlo:s.ord.length < 2 ^ 36)
  (h:st.s 2= .var [slN g.nodes,li g.out]/\st.s 3= .var (eSn s)/\st.s 5= .var [li 0,li 0,li 0,li 0]/\st.s 6=owI (List.replicate n 0)/\st.s 21=slI s.ord/\st.s 22=li s.ord.length/\st.s 23=li 0)
  (hex:∀ s':St,s'.s 2= .var [slN g.nodes,li g.out]/\s'.s 3= .var (eSn s)/\s'.s 5= .var [li 0,li 0,li 0,li 0]/\s'.s 6=owI (atI s.ord n)->Q (.exit 0) s'):AW pg G 108 (.loop a5o) Q st:=by
 refine a0x (Nat×List Int) (fun p st=>p.1<=s.ord.length/\p.2.length=n/\d0b p.1 p.2 (s.ord.drop p.1)=atI s.ord n/\st.s 2= .var [slN g.nodes,li g.out]/\st.s 3= .var (eSn s)/\st.s 5= .var [li 0,li 0,li 0,li 0]/\st.s 6=owI p.2/\st.s 21=slI s.ord/\st.s 22=li s.ord.length/\st.s 23=li p.1) (fun p=>s.ord.length - p.1) (0,List.replicate n 0) ⟨by simp,by simp,rfl,by simpa using h⟩ ?_
 clear h
 rintro ⟨k,a⟩ st K ⟨hk,hl,hm,h⟩ hK
 simp only at hk hl hm h
 by_cases c:k < s.ord.length
 ·have hx:=hord _ (List.getElem_mem c)
  obtain ⟨i,hi⟩:∃ i:Nat,s.ord[k]=i:=⟨s.ord[k].toNat,by omega⟩
  rw [hi] at hx
  have hin:i < a.length:=by omega
  rw [List.drop_eq_getElem_cons c,d0b,hi,Int.toNat_natCast] at hm
  simp (disch:=omega) [go_sem,a5o,h,c,hi,hin]
  exact hK (k+1,a.set i k) _ ⟨by simp only; omega,by simpa using hl,hm,by simp (disch:=omega) [go_sem,h,hin]⟩ (by simp only; omega)
 ·have:k=s.ord.length:=by omega
  subst this
  rw [List.drop_length,d0b] at hm
  subst hm
  simp (disch:=omega) [go_sem,a5o,h]
  exact hex _ (by simp (disch:=omega) [go_sem,h])
theorem d3a {g:Gr} {s:Sn} {a us:List Int} {arr:List Sp} {uss:List (List Int)} {inn x:Sp} {i:Nat} (ha:a.length<=64) (hus:us.length<=64) (hu:∀ k∈us,0<=k/\k < (a.length:Int))
  (h:st.s 2= .var [slN g.nodes,li g.out]/\st.s 3= .var (eSn s)/\st.s 5= .var [li 0,li 0,li 0,li 0]/\st.s 6=owI a/\st.s 9=owS arr/\st.s 10= .var (eS inn)/\st.s 11=li i/\st.s 13= .var (eS x)/\st.s 39=b0b uss/\st.s 40=li uss.length/\st.s 41=li i/\st.s 62=slI us/\st.s 63=li us.length/\st.s 64=li 0)
  (hex:∀ s':St,s'.s 2= .var [slN g.nodes,li g.out]/\s'.s 3= .var (eSn s)/\s'.s 5= .var [li 0,li 0,li 0,li 0]/\s'.s 6=owI a/\s'.s 9=owS arr/\s'.s 10= .var (eS inn)/\s'.s 11=li i/\s'.s 13= .var (eS { x with b:=d0v a x.b us })/\s'.s 39=b0b uss/\s'.s 40=li uss.length/\s'.s 41=li i->Q (.exit 4) s'):AW pg G 108 (.loop a5p) Q st:=by
 refine a0x (Nat×Int) (fun p st=>p.1<=us.length/\d0v a p.2 (us.drop p.1)=d0v a x.b us/\st.s 2= .var [slN g.nodes,li g.out]/\st.s 3= .var (eSn s)/\st.s 5= .var [li 0,li 0,li 0,li 0]/\st.s 6=owI a/\st.s 9=owS arr/\st.s 10= .var (eS inn)/\st.s 11=li i/\st.s 13= .var (eS { x with b:=p.2 })/\st.s 39=b0b uss/\st.s 40=li uss.length/\st.s 41=li i/\st.s 62=slI us/\st.s 63=li us.length/\st.s 64=li p.1) (fun p=>us.length - p.1) (0,x.b) ⟨by simp,by simp,by simpa using h⟩ ?_
 clear h
 rintro ⟨k,t⟩ st K ⟨hk,hm,h⟩ hK
 simp only at hk hm h
 by_cases c:k < us.length
 ·have hx:=hu _ (List.getElem_mem c)
  obtain ⟨j,hj⟩:∃ j:Nat,us[k]=j:=⟨us[k].toNat,by omega⟩
  rw [hj] at hx
  have hja:j < a.length:=by omega
  rw [List.drop_eq_getElem_cons c,d0v,hj,Int.toNat_natCast,a3q hja] at hm
  simp (disch:=omega) [go_sem,a5p,h,c,hj,hja,eS]
  refine a0b ?_
  simp (disch:=omega) [go_sem,h,c,hj,hja,eS]
  refine a0c (by decide) fun s2 hs hep=> ?_
  simp (disch:=omega) [go_sem,hs,hep,h]
  exact hK (k+1,max t a[j]) _ ⟨by simp only; omega,hm,by simp (disch:=omega) [go_sem,hs,hep,h,eS,b7v]⟩ (by simp only; omega)
 ·have:k=us.length:=by omega
  subst this
  rw [List.drop_length,d0v] at hm
  subst hm
  simp (disch:=omega) [go_sem,a5p,h]
  exact hex _ (by simp (disch:=omega) [go_sem,h])
theorem d3b (hS:Sent3 G bk) {g:Gr} {s:Sn} {a:List Int} (hn:g.nodes.length<=64) (ha:a.length=g.nodes.length) (hd:s.descs.length=g.nodes.length) (hsh:∀ d∈s.descs,d.shape.length < 2 ^ 62)
  (h:st.s 2= .var [slN g.nodes,li g.out]/\st.s 3= .var (eSn s)/\st.s 5= .var [li 0,li 0,li 0,li 0]/\st.s 6=owI a/\st.s 9=owS (List.replicate g.nodes.length sp0)/\st.s 10= .var [li (-1),li (-1),li 0,li 4]/\st.s 39=b0b (a7q g)/\st.s 40=li (a7q g).length/\st.s 41=li 0)
  (hex:∀ s':St,s'.s 5= .var [li 0,li 0,li 0,li 0]/\s'.s 9=owS (c03 g s.descs a 0 (a7q g) [] ⟨-1,-1,0,4⟩).1/\s'.s 10= .var (eS (c03 g s.descs a 0 (a7q g) [] ⟨-1,-1,0,4⟩).2)->Q (.exit 2) s'):AW pg G 108 (.loop a5q) Q st:=by
 have hul:=a7r (g:=g)
 have hur:=c07 (g:=g)
 generalize a7q g=uss at *
 refine a0x (Nat×List Sp×List Sp×Sp) (fun p st=>p.1<=uss.length/\p.2.1.length=p.1/\p.2.2.1=p.2.1++List.replicate (g.nodes.length - p.1) sp0/\c03 g s.descs a p.1 (uss.drop p.1) p.2.1 p.2.2.2=c03 g s.descs a 0 uss [] ⟨-1,-1,0,4⟩/\st.s 2= .var [slN g.nodes,li g.out]/\st.s 3= .var (eSn s)/\st.s 5= .var [li 0,li 0,li 0,li 0]/\st.s 6=owI a/\st.s 9=owS p.2.2.1/\st.s 10= .var (eS p.2.2.2)/\st.s 39=b0b uss/\st.s 40=li uss.length/\st.s 41=li p.1) (fun p=>uss.length - p.1) (0,[],List.replicate g.nodes.length sp0,⟨-1,-1,0,4⟩) ⟨by simp,rfl,by simp,rfl,by simpa [eS] using h⟩ ?_
 clear h
 rintro ⟨i,out,arr,inn⟩ st K ⟨hi,hol,har,hm,h⟩ hK
 simp only at hi hol har hm h
 have hla:arr.length=g.nodes.length:=by rw [har]; simp; omega
 by_cases c:i < uss.length
 ·have hr:=hur _ (List.getElem_mem c)
  have c1:i < g.nodes.length:=by omega
  have c2:i < a.length:=by omega
  have c3:i < s.descs.length:=by omega
  have c4:i < arr.length:=by omega
  have hset:∀ x,arr.set i x=(out++[x])++List.replicate (g.nodes.length - (i+1)) sp0:=by
   intro x
   rw [har,show g.nodes.length - i=(g.nodes.length - (i+1))+1 by omega,<-hol]
   exact b46
  rw [List.drop_eq_getElem_cons c,c03] at hm
  have hsd:=hsh _ (List.getElem_mem c3)
  have e0:d4f g s.descs a i uss[i]=⟨a[i],if (i:Int)=g.out then g.nodes.length else d0v a a[i] uss[i],0,upI (a18 s.descs[i].shape s.descs[i].wide)⟩:=by
   simp only [d4f,a3q c2,a3q c3]
  rw [e0,a3q c1] at hm
  have hby:=d02 (G:=G) hS s.descs[i].shape s.descs[i].wide hsd
  have hel:=a68 s.descs[i].shape
  have hup:=g4o (G:=G) (a18 s.descs[i].shape s.descs[i].wide) (by unfold a18; split<;>omega)
  generalize hdv:s.descs[i]=d at *
  generalize a18 d.shape d.wide=nb at *
  generalize huv:uss[i]=us at *
  simp (disch:=omega) [go_sem,a5q,h,c,huv]
  refine a0b ?_
  simp (disch:=omega) [go_sem,h,c,c2,c3,eSn,hdv]
  refine a0w hby rfl rfl (by simp) [59] (by simp) (by simp (disch:=omega) [go_sem]) ?_
  simp (disch:=omega) [go_sem,h,c,c2,c3,eSn,hdv]
  refine a0w hup rfl rfl (by simp) [60] (by simp) (by simp (disch:=omega) [go_sem]) ?_
  simp (disch:=omega) [go_sem,h,c,c2,c3,eSn,hdv]
  refine a0c (by decide) fun s2 hs hep=> ?_
  simp (disch:=omega) [go_sem,hs,hep,h,c,huv]
  refine d3a (g:=g) (s:=s) (a:=a) (us:=us) (arr:=arr) (uss:=uss) (inn:=inn) (x:=⟨a[i],a[i],0,upI nb⟩) (i:=i) (by omega) (by omega) (fun k hk=>by have:=hr.2 k hk; omega) (by simp (disch:=omega) [go_sem,hs,hep,h,eS,eSn]) (fun s3 h3=> ?_)
  simp only [eS,eSn] at h3
  by_cases ho:(i:Int)=g.out
  ·rw [if_pos ho] at hm
   by_cases hop:g.nodes[i].op=1
   ·rw [if_pos hop] at hm
    simp (disch:=omega) [go_sem,h3,c1,ho.symm,hop]
    refine a0b ?_
    simp (disch:=omega) [go_sem,h3,c1,ho.symm,hop]
    refine a0c (by decide) fun s4 hs4 hep4=> ?_
    simp (disch:=omega) [go_sem,hs4,hep4,h3]
    exact hK (i+1,_,arr.set i _,_) _ ⟨by simp only; omega,by simp [hol],hset _,hm,by simp (disch:=omega) [go_sem,hs4,hep4,h3,eS,eSn,e4u,b9q,c4,b7v]⟩ (by simp only; omega)
   ·rw [if_neg hop] at hm
    simp (disch:=omega) [go_sem,h3,c1,ho.symm,hop]
    exact hK (i+1,_,arr.set i _,_) _ ⟨by simp only; omega,by simp [hol],hset _,hm,by simp (disch:=omega) [go_sem,h3,eS,eSn,b9q,c4]⟩ (by simp only; omega)
  ·rw [if_neg ho] at hm
   by_cases hop:g.nodes[i].op=1
   ·rw [if_pos hop] at hm
    simp (disch:=omega) [go_sem,h3,c1,ho,hop]
    refine a0b ?_
    simp (disch:=omega) [go_sem,h3,c1,ho,hop]
    refine a0c (by decide) fun s4 hs4 hep4=> ?_
    simp (disch:=omega) [go_sem,hs4,hep4,h3]
    exact hK (i+1,_,arr.set i _,_) _ ⟨by simp only; omega,by simp [hol],hset _,hm,by simp (disch:=omega) [go_sem,hs4,hep4,h3,eS,eSn,e4u,b9q,c4,b7v]⟩ (by simp only; omega)
   ·rw [if_neg hop] at hm
    simp (disch:=omega) [go_sem,h3,c1,ho,hop]
    exact hK (i+1,_,arr.set i _,_) _ ⟨by simp only; omega,by simp [hol],hset _,hm,by simp (disch:=omega) [go_sem,h3,eS,eSn,b9q,c4]⟩ (by simp only; omega)
 ·have:i=uss.length:=by omega
  subst this
  rw [List.drop_length,c03] at hm
  have:arr=out:=by rw [har,<-hul]; simp
  subst this
  simp (disch:=omega) [go_sem,a5q,h]
  rw [<-hm] at hex
  exact hex _ (by simp (disch:=omega) [go_sem,h])
theorem d7l (hS:Sent3 G bk) (g:Gr) (s:Sn) (hn:g.nodes.length<=64) (htot:tot (g.nodes.map (·.ins)) < 2 ^ 40) (hord:∀ x∈s.ord,0<=x/\x < (g.nodes.length:Int)) (hlo:s.ord.length < 2 ^ 36) (hd:s.descs.length=g.nodes.length) (hsh:∀ d∈s.descs,d.shape.length < 2 ^ 62):ACalls pg G b81 [d3z g,.agg (eSn s)] (.tup [owS (a4l g s).1,.agg (eS (a4l g s).2)]):=by
 refine b4b rfl ?_
 simp (disch:=omega) [go_sem,b2i,eSn]
 refine d29 (g:=g) (s:=s) (n:=g.nodes.length) hn hord hlo (by simp (disch:=omega) [go_sem,eSn]) (fun s1 h1=> ?_)
 simp only [eSn] at h1
 simp (disch:=omega) [go_sem,h1,d65]
 refine a0k ((e84 g.nodes g.out (by omega) htot).shown (res':=b0b (a7q g)) (by simp (disch:=omega) [go_sem,a7q])) (by simp (disch:=omega) [go_sem]) (by simp (disch:=omega) [go_sem]) ?_
 simp (disch:=omega) [go_sem,h1]
 refine d3b hS (g:=g) (s:=s) (a:=atI s.ord g.nodes.length) hn (by simp [atI,c3u]) hd hsh (by simp (disch:=omega) [go_sem,h1,eSn]) (fun s2 h2=> ?_)
 simp only [eS] at h2
 simp (disch:=omega) [go_sem,h2]
 refine a0b ?_
 simp (disch:=omega) [go_sem,h2]
 refine a0c (by decide) fun s3 hs hep=> ?_
 simp (disch:=omega) [go_sem,hs,hep,h2,a4l,eS]
end
def b1o (g:Gr) (out:List Sp):List Int->List Sp
 | []=>[]
 | i::is=>if g.nodes[i.toNat]!.op=1 then b1o g out is else out[i.toNat]! ::b1o g out is
def a7l (g:Gr) (inn:Sp) (offs:List Int):List Sp->Nat->Bool->List Int->List Sp×Bool
 | out,_,nn,[]=>(out,nn)
 | out,k,nn,i::is=>if g.nodes[i.toNat]!.op=1 then a7l g inn offs (out.set i.toNat inn) k false is else a7l g inn offs (out.set i.toNat { out[i.toNat]! with off:=offs[k]! }) (k+1) nn is
def e0k (g:Gr) (out:List Sp) (inn:Sp) (offs:List Int) (ord:List Int):List Sp:=
 if (a7l g { inn with off:=offs[0]! } offs out 1 true ord).2=true then (a7l g { inn with off:=offs[0]! } offs out 1 true ord).1++[{ inn with off:=offs[0]! }] else (a7l g { inn with off:=offs[0]! } offs out 1 true ord).1
def c4k (g:Gr) (s:Sn):(List Sp×Int)×Er:=
 if 65536 < (a5n ((a4l g s).2::b1o g (a4l g s).1 s.ord)).2 then (([],0),.s 7)
 else ((e0k g (a4l g s).1 (a4l g s).2 (a5n ((a4l g s).2::b1o g (a4l g s).1 s.ord)).1 s.ord,(a5n ((a4l g s).2::b1o g (a4l g s).1 s.ord)).2),.nil)
def a8f (g:Gr):(List Sp×Int)×Er:=if (ofR g).2.isNil=true then c4k g (ofR g).1 else (([],0),(ofR g).2)
theorem a7p {l:List AV} {i:Nat} {v:AV} (h:i < l.length):a0h l i [v]=l.set i v:=by
 rw [List.set_eq_take_append_cons_drop,if_pos h]; simp [a0h]
theorem d5g {xs:List Sp} {i:Nat} {v:Int} (h:i < xs.length):a0h (fm eS xs) (i*4+2) [li v]=fm eS (xs.set i { xs[i] with off:=v }):=by
 rw [a7p (by rw [c33]; omega)]
 induction xs generalizing i with
 | nil=>simp at h
 | cons x xs ih=>
  cases i with
  | zero=>rfl
  | succ i=>
   have:=ih (i:=i) (by simpa using h)
   rw [List.set_cons_succ,a3h,a3h,show (i+1)*4+2=(eS x).length+(i*4+2) by simp [eS]; omega,List.set_append_right _ _ (by omega),Nat.add_sub_cancel_left,this]
   rfl
theorem c3h {g:Gr} {o1:List Sp}:∀ {is:List Int},(b1o g o1 is).length<=is.length
 | []=>Nat.le_refl _
 | i::is=>by
  have:=c3h (g:=g) (o1:=o1) (is:=is)
  rw [b1o]
  split<;>simp<;>omega
theorem c4o {N:Nat}:∀ {ss ds:List Sp} {os:List Int} {m:Int},(c81 N ds os m ss).1.length=os.length+ss.length
 | [],_,_,_=>rfl
 | s::ss,ds,os,m=>by
  rw [c81]
  split<;>rw [c4o]<;>simp<;>omega
theorem c4y {g:Gr} {ds:List Ds} {a:List Int}:∀ {us:List (List Int)} {i:Nat} {out:List Sp} {inn:Sp},(c03 g ds a i us out inn).1.length=out.length+us.length
 | [],_,_,_=>rfl
 | u::us,i,out,inn=>by
  rw [c03,c4y]; simp; omega
theorem g0p {s:List Int} {w:Bool}:0<=upI (a18 s w)/\upI (a18 s w) < 2 ^ 63:=by
 have:=a68 s
 exact c97 (by unfold a18; split<;>omega)
theorem c4z {g:Gr} {ds:List Ds} {a:List Int}:∀ {us:List (List Int)} {i:Nat} {out:List Sp} {inn:Sp},(∀ x∈out,x.len < 2 ^ 63)->inn.len < 2 ^ 63->(∀ x∈(c03 g ds a i us out inn).1,x.len < 2 ^ 63)/\(c03 g ds a i us out inn).2.len < 2 ^ 63
 | [],_,_,_,h,h2=>⟨h,h2⟩
 | u::us,i,out,inn,h,h2=>by
  rw [c03]
  have hb:(d4f g ds a i u).len < 2 ^ 63:=g0p.2
  refine c4z (fun x hx=> ?_) ?_
  ·rcases List.mem_append.1 hx with hx | hx
   ·exact h x hx
   ·simp at hx; rw [hx]; exact hb
  ·split
   ·exact hb
   ·exact h2
theorem b8f {g:Gr} {out:List Sp}:∀ {is:List Int},(∀ i∈is,0<=i/\i < (out.length:Int))->∀ x∈b1o g out is,x∈out
 | [],_,x,h=>by simp [b1o] at h
 | i::is,hi,x,h=>by
  rw [b1o] at h
  split at h
  ·exact b8f (fun k hk=>hi k (by simp [hk])) x h
  ·rcases List.mem_cons.1 h with h | h
   ·have:=hi i (by simp)
    rw [h,a3q (by omega)]
    exact List.getElem_mem _
   ·exact b8f (fun k hk=>hi k (by simp [hk])) x h
section
variable {G:GG} {bk:Nat->Nat×Nat} {Q:Exit->St->Prop} {st:St}
theorem e5k {g:Gr} {s:Sn} {out:List Sp} {inn:Sp} (hn:g.nodes.length<=64) (hlo:out.length=g.nodes.length) (hord:∀ x∈s.ord,0<=x/\x < (g.nodes.length:Int)) (hol:s.ord.length < 2 ^ 36)
  (h:st.s 1= .var [slN g.nodes,li g.out]/\st.s 2=owS []/\st.s 3=li 0/\st.s 4= .lit .nilIface/\st.s 5= .var (eSn s)/\st.s 7=owS out/\st.s 8= .var (eS inn)/\st.s 9=owS [inn]/\st.s 37=slI s.ord/\st.s 38=li s.ord.length/\st.s 39=li 0)
  (hex:∀ s':St,s'.s 1= .var [slN g.nodes,li g.out]/\s'.s 2=owS []/\s'.s 3=li 0/\s'.s 4= .lit .nilIface/\s'.s 5= .var (eSn s)/\s'.s 7=owS out/\s'.s 8= .var (eS inn)/\s'.s 9=owS (inn::b1o g out s.ord)->Q (.exit 0) s'):AW pg G 106 (.loop a7d) Q st:=by
 refine a0x (Nat×List Sp) (fun p st=>p.1<=s.ord.length/\p.2.length<=p.1+1/\p.2++b1o g out (s.ord.drop p.1)=inn::b1o g out s.ord/\st.s 1= .var [slN g.nodes,li g.out]/\st.s 2=owS []/\st.s 3=li 0/\st.s 4= .lit .nilIface/\st.s 5= .var (eSn s)/\st.s 7=owS out/\st.s 8= .var (eS inn)/\st.s 9=owS p.2/\st.s 37=slI s.ord/\st.s 38=li s.ord.length/\st.s 39=li p.1) (fun p=>s.ord.length - p.1) (0,[inn]) ⟨by simp,by simp,rfl,by simpa using h⟩ ?_
 clear h
 rintro ⟨j,l⟩ st K ⟨hj,hll,hm,h⟩ hK
 simp only at hj hll hm h
 by_cases c:j < s.ord.length
 ·have hx:=hord _ (List.getElem_mem c)
  obtain ⟨i,hi⟩:∃ i:Nat,s.ord[j]=i:=⟨s.ord[j].toNat,by omega⟩
  rw [hi] at hx
  have c1:i < g.nodes.length:=by omega
  have c2:i < out.length:=by omega
  rw [List.drop_eq_getElem_cons c,b1o,hi,Int.toNat_natCast,a3q c1,a3q c2] at hm
  by_cases hop:g.nodes[i].op=1
  ·rw [if_pos hop] at hm
   simp (disch:=omega) [go_sem,a7d,h,c,hi,c1,hop]
   exact hK (j+1,l) _ ⟨by simp only; omega,by simp only; omega,hm,by simp (disch:=omega) [go_sem,h]⟩ (by simp only; omega)
  ·rw [if_neg hop] at hm
   simp (disch:=omega) [go_sem,a7d,h,c,hi,c1,c2,hop]
   exact hK (j+1,l++[out[i]]) _ ⟨by simp only; omega,by simp; omega,by simpa using hm,by simp (disch:=omega) [go_sem,h,a5k,a5l,eS]⟩ (by simp only; omega)
 ·have:j=s.ord.length:=by omega
  subst this
  rw [List.drop_length,b1o,List.append_nil] at hm
  subst hm
  simp (disch:=omega) [go_sem,a7d,h]
  exact hex _ (by simp (disch:=omega) [go_sem,h])
theorem e5l {g:Gr} {s:Sn} {out:List Sp} {inn:Sp} {offs:List Int} {n:Int} (hn:g.nodes.length<=64) (hlo:out.length=g.nodes.length) (hord:∀ x∈s.ord,0<=x/\x < (g.nodes.length:Int)) (hol:s.ord.length < 2 ^ 36) (hof:offs.length=1+(b1o g out s.ord).length)
  (h:st.s 1= .var [slN g.nodes,li g.out]/\st.s 2=owS []/\st.s 3=li 0/\st.s 4= .lit .nilIface/\st.s 5= .var (eSn s)/\st.s 7=owS out/\st.s 8= .var (eS inn)/\st.s 12=owI offs/\st.s 13=li n/\st.s 14=li 1/\st.s 15=lb true/\st.s 71=slI s.ord/\st.s 72=li s.ord.length/\st.s 73=li 0)
  (hex:∀ s':St,(s'.s 2=owS []/\s'.s 3=li 0/\s'.s 4= .lit .nilIface/\s'.s 7=owS (a7l g inn offs out 1 true s.ord).1/\s'.s 8= .var (eS inn)/\s'.s 13=li n/\s'.s 15=lb (a7l g inn offs out 1 true s.ord).2)/\(a7l g inn offs out 1 true s.ord).1.length=out.length->Q (.exit 2) s'):AW pg G 106 (.loop a7e) Q st:=by
 refine a0x (Nat×List Sp×Nat×Bool) (fun p st=>p.1<=s.ord.length/\p.2.1.length=g.nodes.length/\p.2.2.1+(b1o g out (s.ord.drop p.1)).length=offs.length/\a7l g inn offs p.2.1 p.2.2.1 p.2.2.2 (s.ord.drop p.1)=a7l g inn offs out 1 true s.ord/\st.s 1= .var [slN g.nodes,li g.out]/\st.s 2=owS []/\st.s 3=li 0/\st.s 4= .lit .nilIface/\st.s 5= .var (eSn s)/\st.s 7=owS p.2.1/\st.s 8= .var (eS inn)/\st.s 12=owI offs/\st.s 13=li n/\st.s 14=li p.2.2.1/\st.s 15=lb p.2.2.2/\st.s 71=slI s.ord/\st.s 72=li s.ord.length/\st.s 73=li p.1) (fun p=>s.ord.length - p.1) (0,out,1,true) ⟨by simp,hlo,by simp [hof],rfl,by simpa using h⟩ ?_
 clear h
 have hsl:=c3h (g:=g) (o1:=out) (is:=s.ord)
 rintro ⟨j,o,k,b⟩ st K ⟨hj,hl,hk,hm,h⟩ hK
 simp only at hj hl hk hm h
 by_cases c:j < s.ord.length
 ·have hx:=hord _ (List.getElem_mem c)
  obtain ⟨i,hi⟩:∃ i:Nat,s.ord[j]=i:=⟨s.ord[j].toNat,by omega⟩
  rw [hi] at hx
  have c1:i < g.nodes.length:=by omega
  have c2:i < o.length:=by omega
  rw [List.drop_eq_getElem_cons c,a7l,hi,Int.toNat_natCast,a3q c1,a3q c2] at hm
  rw [List.drop_eq_getElem_cons c,b1o,hi,Int.toNat_natCast,a3q c1] at hk
  by_cases hop:g.nodes[i].op=1
  ·rw [if_pos hop] at hm hk
   simp (disch:=omega) [go_sem,a7e,h,c,hi,c1,c2,hop,eS]
   exact hK (j+1,o.set i inn,k,false) _ ⟨by simp only; omega,by simpa using hl,hk,hm,by simp (disch:=omega) [go_sem,h,c2,eS,b9q]⟩ (by simp only; omega)
  ·rw [if_neg hop,List.length_cons] at hk
   have c3:k < offs.length:=by omega
   rw [if_neg hop,a3q c3] at hm
   simp (disch:=omega) [go_sem,a7e,h,c,hi,c1,c2,c3,hop]
   exact hK (j+1,o.set i { o[i] with off:=offs[k] },k+1,b) _ ⟨by simp only; omega,by simpa using hl,by simp only; omega,hm,by simp (disch:=omega) [go_sem,h,c2,d5g]⟩ (by simp only; omega)
 ·have:j=s.ord.length:=by omega
  subst this
  rw [List.drop_length,a7l] at hm
  rw [<-hm] at hex
  simp (disch:=omega) [go_sem,a7e,h]
  exact hex _ ⟨by simp (disch:=omega) [go_sem,h],by simp only; omega⟩
theorem f7r (hS:SentO G bk) (hA:Around G bk) (g:Gr) (hf:∀ n∈g.nodes,n.sh) (hn:g.nodes.length < 2 ^ 36) (htot:tot (g.nodes.map (·.ins)) < 2 ^ 40)
  (hok:(ofR g).2.isNil=true->g.nodes.length<=64/\(∀ x∈(ofR g).1.ord,0<=x/\x < (g.nodes.length:Int))/\(ofR g).1.ord.length < 2 ^ 36/\(ofR g).1.descs.length=g.nodes.length/\∀ d∈(ofR g).1.descs,d.shape.length < 2 ^ 62) :
  ACalls pg G c60 [d3z g] (.tup [owS (a8f g).1.1,li (a8f g).1.2,a0r bk (a8f g).2]):=by
 have h1:=hS.val 6 (by decide)
 refine b94 rfl ?_
 simp (disch:=omega) [go_sem,b93]
 refine a0k (g3s hS hA g hf hn htot) (by simp [go_sem,eSn,noRef]) (by simp (disch:=omega) [go_sem]) ?_
 rw [a8f]
 generalize hr:ofR g=r at *
 obtain ⟨s,e⟩:=r
 simp only at hok ⊢
 cases he:e.isNil with
 | false=>
  simp (disch:=omega) [go_sem,he,a24,eSn]
 | true=>
  obtain ⟨hl,hord,hol,hd,hsh⟩:=hok he
  obtain rfl:e= .nil:=by cases e<;>simp_all [Er.isNil]
  simp (disch:=omega) [go_sem,he,eSn]
  refine a7t (d7l hS.three g s hl htot hord hol hd hsh) (by simp [go_sem,noRef,eS]) ?_ ?_
  all_goals
   simp only [c4k]
   have hso:(a4l g s).1.length=g.nodes.length:=by rw [a4l,c4y,a7r]; simp
   have hsr:=c4z (g:=g) (ds:=s.descs) (a:=atI s.ord g.nodes.length) (us:=a7q g) (i:=0) (out:=[]) (inn:=⟨-1,-1,0,4⟩) (by simp) (by simp)
   rw [<-a4l] at hsr
   generalize a4l g s=q at *
   obtain ⟨out,inn⟩:=q
   simp only at hso hsr ⊢
   simp (disch:=omega) [go_sem,eS]
   refine e5k (g:=g) (s:=s) (out:=out) (inn:=inn) hl hso hord hol (by simp (disch:=omega) [go_sem,eS,eSn,a5l,a24]) (fun s1 h1'=> ?_)
   simp only [eS,eSn] at h1'
   have hmem:∀ x∈inn::b1o g out s.ord,x.len < 2 ^ 63:=by
    intro x hx
    rcases List.mem_cons.1 hx with hx | hx
    ·rw [hx]; exact hsr.2
    ·exact hsr.1 x (b8f (fun i hi=>by have:=hord i hi; omega) x hx)
   have hsl:=c3h (g:=g) (o1:=out) (is:=s.ord)
   have hpl:(a5n (inn::b1o g out s.ord)).1.length=1+(b1o g out s.ord).length:=by rw [a5n,c4o]; simp; omega
   have spec:=d60 (G:=G) (inn::b1o g out s.ord) (by simp; omega) hmem
   generalize inn::b1o g out s.ord=ll at *
   generalize a5n ll=p at *
   obtain ⟨offs,n⟩:=p
   simp only at hpl spec ⊢
   simp (disch:=omega) [go_sem,h1']
   refine a7t spec (by simp [go_sem,noRef]) ?_ ?_
   all_goals
    by_cases hn6:65536 < n
    ·simp (disch:=omega) [go_sem,h1',hn6]
     refine a0b ?_
     simp (disch:=omega) [go_sem,h1',h1]
     refine a0c (by decide) fun s2 hs2 hep=> ?_
     simp (disch:=omega) [go_sem,hs2,h1',a24,a0r]
    ·have c0:0 < offs.length:=by omega
     simp (disch:=omega) [go_sem,h1',hn6,c0]
     refine e5l (g:=g) (s:=s) (out:=out) (inn:={ inn with off:=offs[0] }) (offs:=offs) (n:=n) hl hso hord hol hpl (by simp (disch:=omega) [go_sem,h1',eS,eSn,c0]) (fun s2 h2=> ?_)
     obtain ⟨h2,h2l⟩:=h2
     rw [e0k,a3q c0]
     generalize a7l g { inn with off:=offs[0] } offs out 1 true s.ord=pg2 at *
     obtain ⟨o2,b⟩:=pg2
     simp only [eS] at h2 h2l ⊢
     cases b
     ·simp (disch:=omega) [go_sem,h2,a0r]
     ·have hta:∀ vs:List AV,vs.length=4->(fm eS o2++vs).take ((o2.length+1)*4)=fm eS o2++vs:=fun vs hv=>List.take_of_length_le (by rw [List.length_append,c33,hv]; omega)
      simp (disch:=omega) [go_sem,h2,a0r,a5k,a5l,eS]
      exact hta _ rfl
end
end Go.Ideal.Tryd
end
section
namespace Go.Ideal.Tryd
def a34:IC:=(.seq (.seq (.reg [om 21 7,
 om 22 0,
 oo 23 (.bin .lss 3 0 (.t 21) (.t 22) 3)]) (.cond (.t 23) .skip (.exit 0))) (.block 1 (.seq (.reg [om 24 0,
 oo 8 (.asg (.t 24))]) (.seq (.seq (.reg [om 25 0,
 om 26 7,
 oo 27 (.bin .sub 3 0 (.t 25) (.t 26) 3),
 om 28 5,
 oo 29 (.bin .gtr 3 0 (.t 27) (.t 28) 3)]) (.cond (.t 29) (.reg [om 30 7,
 om 31 5,
 oo 32 (.bin .add 3 0 (.t 30) (.t 31) 3),
 oo 8 (.asg (.t 32))]) .skip)) (.seq (.reg [om 33 6,
 om 34 7,
 om 35 8,
 oo 36 (.build 65 [.lit (.int .i64 0),.lit (.int .i64 0)] [(0,0,1,(.t 34)),(1,1,1,(.t 35))]),
 oo 37 (.bslice 63 65 2 1 [.lit (.int .i64 0),.lit (.int .i64 0)] [(0,(.t 36))]),
 oo 38 (.app 63 65 2 16 (.t 33) (.t 37)),
 oo 6 (.asg (.t 38))]) (.reg [om 39 8,
 oo 7 (.asg (.t 39))]))))))
def a3v:IC:=(.seq (.reg [oo 4 (.asg (.nl 2))]) (.seq (.seq (.reg [om 9 0,
 oo 10 (.bin .lss 3 0 (.t 9) (.n 1) 3),
 om 11 10,
 og 12 (.mv (.t 1)) 2 11 false,
 og 13 (.bin .lss 3 0 (.t 12) (.n 1) 3) 2 11 false,
 oo 14 (.pick (.t 11) (.c (.bool true)) (.t 13)),
 om 15 14,
 og 16 (.mv (.t 1)) 6 15 false,
 og 17 (.bin .gtr 3 0 (.t 16) (.n 1024) 3) 6 15 false,
 oo 18 (.pick (.t 15) (.c (.bool true)) (.t 17))]) (.cond (.t 18) (.seq (.reg [oo 4 (.asg (.nl 2))]) .ret) .skip)) (.seq (.reg [om 19 1,
 oo 20 (.bin .quo 3 0 (.n 1024) (.t 19) 3),
 oo 5 (.asg (.t 20))]) (.seq (.reg [oo 6 (.asg (.nl 2))]) (.seq (.seq (.reg [oo 7 (.asg (.n 0))]) (.block 0 (.loop a34))) (.seq (.reg [om 40 6,
 oo 4 (.asg (.t 40))]) .ret))))))
abbrev c1i:Nat:=21
theorem b5w:fnC pg 21 41 [(.tmp 4)] a3v:=a05 Go.Proofs.Tryd.f21 [(.tmp 4)] (by kernel_rfl)
@[go_sem] theorem d17:fnB pg 21=true:=by kernel_rfl
def b00:IC:=(.seq (.reg [oo 46 (.bin .lss 3 0 (.t 45) (.t 44) 3)]) (.seq (.cond (.t 46) .skip (.exit 0)) (.seq (.block 1 (.seq (.reg [oo 47 (.iaddr 34 1 (.t 43) (.t 45)),
 oo 48 (.load 3 none (.t 47)),
 oo 9 (.asg (.t 48))]) (.seq (.reg [oo 50 (.load 49 (some 2) (.t 1)),
 oo 51 (.load 51 (some 5) (.t 4)),
 om 52 9,
 oc 53 48 [(false,(.t 50)),(false,(.t 51)),(false,(.t 52))] [49,51,3],
 oo 49 (.mva (.t 53)),
 oo 54 (.ext (.t 49) 0),
 oo 55 (.ext (.t 49) 1),
 oo 10 (.asg (.t 54)),
 oo 11 (.asg (.t 55))]) (.seq (.reg [om 56 11,
 oo 57 (.bin .gtr 3 0 (.t 56) (.n 1024) 3)]) (.cond (.t 57) (.seq (.draw [oo 58 (.build 27 [.lit (.int .i64 0),.sl 0 [],.sl 0 [],.sl 0 [],.sl 0 [],.lit (.int .i64 0),.lit (.int .i64 0)] []),
 om 59 9,
 oo 60 (.load 53 none (.g 2)),
 oo 61 (.build 108 [.lit (.int .i64 0),.lit .nilIface] [(0,0,1,(.t 59)),(1,1,1,(.t 60))]),
 oo 62 (.box 108 2 (.t 61)),
 oo 63 (.mki 106 (.t 62)),
 ov (.store 27 7 (.t 2) (.t 58)),
 oo 3 (.asg (.t 63))] [[],[],[],[1,2],[3],[4],[0,0],[5,6,0,1,2,3,4,5,6]]) .ret) .skip))))) (.reg [oo 64 (.bin .add 3 0 (.t 45) (.n 1) 3),
 om 45 64]))))
def b01:IC:=(.seq (.reg [oo 80 (.bin .lss 3 0 (.t 79) (.t 78) 3)]) (.seq (.cond (.t 80) .skip (.exit 2)) (.seq (.block 3 (.seq (.reg [oo 81 (.iaddr 24 2 (.t 77) (.t 79)),
 oo 82 (.load 39 (some 2) (.t 81)),
 oo 14 (.alloc 39 [.own 1 0 [],.lit (.bool false)]),
 ov (.store 39 2 (.t 14) (.t 82))]) (.draw [oo 83 (.faddr 27 3 (.t 12) 3),
 oo 84 (.load 24 none (.t 83)),
 oo 85 (.load 39 (some 2) (.t 14)),
 oc 86 26 [(false,(.t 85))] [39],
 oo 87 (.bslice 24 39 2 1 [.own 1 0 [],.lit (.bool false)] [(0,(.t 86))]),
 oo 88 (.app 24 39 2 32 (.t 84) (.t 87)),
 oo 89 (.faddr 27 3 (.t 12) 3),
 ov (.store 24 1 (.t 89) (.t 88))] [[],[0],[],[2],[3],[1,4,3],[0,1,2,3,4,5],[6,5,5,0,1,2,3,4,5]]))) (.reg [oo 90 (.bin .add 3 0 (.t 79) (.n 1) 3),
 om 79 90]))))
def b02:IC:=(.seq (.reg [oo 150 (.bin .lss 3 0 (.t 149) (.t 148) 3)]) (.seq (.cond (.t 150) .skip (.exit 6)) (.seq (.block 7 (.seq (.reg [oo 151 (.iaddr 63 2 (.t 147) (.t 149)),
 oo 152 (.load 65 (some 2) (.t 151)),
 oo 21 (.alloc 65 [.lit (.int .i64 0),.lit (.int .i64 0)]),
 ov (.store 65 2 (.t 21) (.t 152))]) (.seq (.reg [oo 153 (.load 36 (some 6) (.t 19)),
 oo 22 (.alloc 36 [.lit (.int .i64 0),.lit (.int .i64 0),.own 1 0 [],.own 1 0 [],.lit (.int .i64 0),.lit (.int .i64 0)]),
 ov (.store 36 6 (.t 22) (.t 153))]) (.seq (.draw [oo 154 (.faddr 36 2 (.t 19) 2),
 oo 155 (.load 34 none (.t 154)),
 oc 156 28 [(false,(.t 155))] [34],
 oo 157 (.faddr 36 3 (.t 19) 3),
 oo 158 (.load 34 none (.t 157)),
 oc 159 28 [(false,(.t 158))] [34],
 oo 160 (.aaddr 65 0 (.t 21) 0),
 oo 161 (.load 3 none (.t 160)),
 oo 162 (.aaddr 65 1 (.t 21) 1),
 oo 163 (.load 3 none (.t 162)),
 oo 164 (.faddr 36 2 (.t 22) 2),
 ov (.store 34 1 (.t 164) (.t 156)),
 oo 165 (.faddr 36 3 (.t 22) 3),
 ov (.store 34 1 (.t 165) (.t 159)),
 oo 166 (.faddr 36 4 (.t 22) 4),
 ov (.store 3 1 (.t 166) (.t 161)),
 oo 167 (.faddr 36 5 (.t 22) 5),
 ov (.store 3 1 (.t 167) (.t 163))] [[],[0],[1],[],[3],[4,2],[],[6],[],[8],[0,1,2],[10,2,5,0,1,2],[0,1,2,3,4,5,10,11],[12,5,11,0,1,2,3,4,5,10,11],[0,1,2,3,4,5,6,7,10,11,12,13],[14,7,13,0,1,2,3,4,5,6,7,10,11,12,13],[0,1,2,3,4,5,6,7,8,9,10,11,12,13,14,15],[16,9,15,0,1,2,3,4,5,6,7,8,9,10,11,12,13,14,15]]) (.seq (.reg [oo 168 (.faddr 27 4 (.t 12) 4),
 oo 169 (.load 25 none (.t 168)),
 oo 170 (.load 36 (some 6) (.t 22)),
 oo 171 (.bslice 25 36 6 1 [.lit (.int .i64 0),.lit (.int .i64 0),.own 1 0 [],.own 1 0 [],.lit (.int .i64 0),.lit (.int .i64 0)] [(0,(.t 170))]),
 oo 172 (.app 25 36 6 80 (.t 169) (.t 171)),
 oo 173 (.faddr 27 4 (.t 12) 4),
 ov (.store 25 1 (.t 173) (.t 172))]) (.seq (.reg [oo 174 (.faddr 27 4 (.t 12) 4),
 oo 175 (.load 25 none (.t 174)),
 oo 176 (.len 25 false (.t 175)),
 oo 177 (.bin .gtr 3 0 (.t 176) (.n 2048) 3)]) (.cond (.t 177) (.seq (.draw [oo 178 (.build 27 [.lit (.int .i64 0),.sl 0 [],.sl 0 [],.sl 0 [],.sl 0 [],.lit (.int .i64 0),.lit (.int .i64 0)] []),
 oo 179 (.load 53 none (.g 0)),
 ov (.store 27 7 (.t 2) (.t 178)),
 oo 3 (.asg (.t 179))] [[],[],[0,0],[1,2,0,1,2]]) .ret) .skip))))))) (.reg [oo 180 (.bin .add 3 0 (.t 149) (.n 1) 3),
 om 149 180]))))
def a8v:IC:=(.seq (.reg [oo 99 (.bin .lss 3 0 (.t 98) (.t 97) 3)]) (.seq (.cond (.t 99) .skip (.exit 4)) (.seq (.block 5 (.seq (.reg [oo 100 (.iaddr 34 1 (.t 96) (.t 98)),
 oo 101 (.load 3 none (.t 100)),
 oo 17 (.asg (.t 101))]) (.seq (.reg [oo 102 (.faddr 49 0 (.t 1) 0),
 oo 103 (.load 47 none (.t 102)),
 om 104 17,
 oo 105 (.iaddr 47 6 (.t 103) (.t 104)),
 oo 106 (.load 46 (some 6) (.t 105)),
 oo 18 (.alloc 46 [.lit (.int .i64 0),.own 1 0 [],.own 1 0 [],.own 1 0 [],.lit (.bool false),.own 1 0 []]),
 ov (.store 46 6 (.t 18) (.t 106))]) (.seq (.seq (.reg [oo 107 (.faddr 46 0 (.t 18) 0),
 oo 108 (.load 3 none (.t 107)),
 oo 109 (.bin .eql 3 0 (.t 108) (.n 1) 3)]) (.cond (.t 109) (.exit 5) .skip)) (.seq (.reg [om 110 15,
 om 111 17,
 oo 112 (.faddr 27 1 (.t 12) 1),
 oo 113 (.load 22 none (.t 112)),
 oo 114 (.len 22 false (.t 113)),
 oo 115 (.iaddr 34 1 (.t 110) (.t 111)),
 ov (.store 3 1 (.t 115) (.t 114))]) (.seq (.draw [oo 116 (.faddr 27 1 (.t 12) 1),
 oo 117 (.load 22 none (.t 116)),
 om 118 6,
 om 119 17,
 oo 120 (.iaddr 101 4 (.t 118) (.t 119)),
 oo 121 (.faddr 110 2 (.t 120) 2),
 oo 122 (.load 3 none (.t 121)),
 oo 123 (.faddr 51 1 (.t 4) 1),
 oo 124 (.load 24 none (.t 123)),
 om 125 17,
 oo 126 (.iaddr 24 2 (.t 124) (.t 125)),
 oo 127 (.load 39 (some 2) (.t 126)),
 oc 128 26 [(false,(.t 127))] [39],
 oo 129 (.build 41 [.lit (.int .i64 0),.own 1 0 [],.lit (.bool false)] [(0,0,1,(.t 122)),(1,1,2,(.t 128))]),
 oo 130 (.bslice 22 41 3 1 [.lit (.int .i64 0),.own 1 0 [],.lit (.bool false)] [(0,(.t 129))]),
 oo 131 (.app 22 41 3 40 (.t 117) (.t 130)),
 oo 132 (.faddr 27 1 (.t 12) 1),
 ov (.store 22 1 (.t 132) (.t 131))] [[],[0],[],[],[2,3],[4],[5],[],[7],[],[8,9],[10],[11],[6,12],[13],[1,14,12],[0,1,2,3,4,5,6,7,8,9,10,11,12,13,14,15],[16,15,15,0,1,2,3,4,5,6,7,8,9,10,11,12,13,14,15]]) (.seq (.reg [oo 133 (.load 46 (some 6) (.t 18)),
 om 134 15,
 ⟨(some 135),.callx (.f 50) [(false,(.t 133))] [.l 12,.p 0,.x (.t 134)] [113,46,34],none⟩,
 oo 19 (.alloc 36 [.lit (.int .i64 0),.lit (.int .i64 0),.own 1 0 [],.own 1 0 [],.lit (.int .i64 0),.lit (.int .i64 0)]),
 ov (.store 36 6 (.t 19) (.t 135))]) (.seq (.reg [om 136 15,
 om 137 17,
 oo 138 (.iaddr 34 1 (.t 136) (.t 137)),
 oo 139 (.load 3 none (.t 138)),
 oo 140 (.faddr 36 1 (.t 19) 1),
 ov (.store 3 1 (.t 140) (.t 139))]) (.seq (.reg [oo 141 (.load 49 (some 2) (.t 1)),
 oo 142 (.load 51 (some 5) (.t 4)),
 om 143 17,
 oc 144 48 [(false,(.t 141)),(false,(.t 142)),(false,(.t 143))] [49,51,3],
 oo 145 (.ext (.t 144) 0),
 oo 146 (.ext (.t 144) 1),
 oc 147 21 [(false,(.t 145)),(false,(.t 146))] [3,3],
 oo 148 (.len 63 false (.t 147)),
 oo 149 (.mv (.n 0))]) (.block 6 (.loop b02))))))))))) (.reg [oo 181 (.bin .add 3 0 (.t 98) (.n 1) 3),
 om 98 181]))))
def c4c:IC:=(.seq (.reg [oo 1 (.box 49 2 (.t 0)),
 oo 2 (.alloc 27 [.lit (.int .i64 0),.own 3 0 [],.own 3 0 [],.own 2 0 [],.own 6 0 [],.lit (.int .i64 0),.lit (.int .i64 0)]),
 oo 3 (.asg (.c .nilIface))]) (.seq (.reg [oo 24 (.load 49 (some 2) (.t 1)),
 oc 25 15 [(false,(.t 24))] [49],
 oo 23 (.mva (.t 25)),
 oo 26 (.ext (.t 23) 0),
 oo 27 (.ext (.t 23) 1),
 oo 4 (.alloc 51 [.own 1 0 [],.own 2 0 [],.own 1 0 [],.lit (.bool false),.own 2 0 []]),
 ov (.store 51 5 (.t 4) (.t 26)),
 oo 5 (.asg (.t 27))]) (.seq (.seq (.reg [om 28 5,
 oo 29 (.bin .neq 53 2 (.t 28) (.c .nilIface) 53)]) (.cond (.t 29) (.seq (.reg [oo 30 (.build 27 [.lit (.int .i64 0),.sl 0 [],.sl 0 [],.sl 0 [],.sl 0 [],.lit (.int .i64 0),.lit (.int .i64 0)] []),
 om 31 5,
 ov (.store 27 7 (.t 2) (.t 30)),
 oo 3 (.asg (.t 31))]) .ret) .skip)) (.seq (.reg [oo 33 (.load 49 (some 2) (.t 1)),
 oc 34 47 [(false,(.t 33))] [49],
 oo 32 (.mva (.t 34)),
 oo 35 (.ext (.t 32) 0),
 oo 36 (.ext (.t 32) 1),
 oo 37 (.ext (.t 32) 2),
 oo 6 (.asg (.t 35)),
 oo 7 (.asg (.t 36)),
 oo 5 (.asg (.t 37))]) (.seq (.seq (.reg [om 38 5,
 oo 39 (.bin .neq 53 2 (.t 38) (.c .nilIface) 53)]) (.cond (.t 39) (.seq (.reg [oo 40 (.build 27 [.lit (.int .i64 0),.sl 0 [],.sl 0 [],.sl 0 [],.sl 0 [],.lit (.int .i64 0),.lit (.int .i64 0)] []),
 om 41 5,
 ov (.store 27 7 (.t 2) (.t 40)),
 oo 3 (.asg (.t 41))]) .ret) .skip)) (.seq (.seq (.reg [oo 42 (.faddr 51 0 (.t 4) 0),
 oo 43 (.load 34 none (.t 42)),
 oo 44 (.len 34 false (.t 43)),
 oo 45 (.mv (.n 0))]) (.block 0 (.loop b00))) (.seq (.draw [om 65 7,
 oo 66 (.load 49 (some 2) (.t 1)),
 om 67 6,
 oc 68 49 [(false,(.t 66)),(false,(.t 67))] [49,101],
 oo 69 (.fld 110 2 (.t 68) 2),
 oo 70 (.faddr 51 2 (.t 4) 2),
 oo 71 (.load 39 (some 2) (.t 70)),
 oc 72 26 [(false,(.t 71))] [39],
 oo 73 (.build 41 [.lit (.int .i64 0),.own 1 0 [],.lit (.bool false)] [(0,0,1,(.t 69)),(1,1,2,(.t 72))]),
 oo 74 (.bslice 22 41 3 1 [.lit (.int .i64 0),.own 1 0 [],.lit (.bool false)] [(0,(.t 73))]),
 oo 75 (.build 27 [.lit (.int .i64 0),.own 3 0 [],.own 3 0 [],.own 2 0 [],.own 6 0 [],.lit (.int .i64 0),.lit (.int .i64 0)] [(0,0,1,(.t 65)),(1,1,1,(.t 74))]),
 oo 12 (.alloc 27 [.lit (.int .i64 0),.own 3 0 [],.own 3 0 [],.own 2 0 [],.own 6 0 [],.lit (.int .i64 0),.lit (.int .i64 0)]),
 ov (.store 27 7 (.t 12) (.t 75))] [[],[],[],[1,2],[3],[],[5],[6,3],[4,7],[8],[0,9],[],[11,10,7,0,1,2,3,4,5,6,7,8,9,10,11]]) (.seq (.seq (.reg [oo 76 (.faddr 51 4 (.t 4) 3),
 oo 77 (.load 24 none (.t 76)),
 oo 78 (.len 24 false (.t 77)),
 oo 79 (.mv (.n 0))]) (.block 2 (.loop b01))) (.seq (.reg [oo 91 (.faddr 49 0 (.t 1) 0),
 oo 92 (.load 47 none (.t 91)),
 oo 93 (.len 47 false (.t 92)),
 oo 94 (.mks 34 3 1 8 [.lit (.int .i64 0)] (.t 93) (.t 93)),
 oo 15 (.asg (.t 94))]) (.seq (.seq (.reg [oo 95 (.faddr 51 0 (.t 4) 0),
 oo 96 (.load 34 none (.t 95)),
 oo 97 (.len 34 false (.t 96)),
 oo 98 (.mv (.n 0))]) (.block 4 (.loop a8v))) (.seq (.seq (.reg [oo 182 (.faddr 27 4 (.t 12) 4),
 oo 183 (.load 25 none (.t 182)),
 oo 184 (.build 36 [.lit (.int .i64 0),.lit (.int .i64 0),.own 1 0 [],.own 1 0 [],.lit (.int .i64 0),.lit (.int .i64 0)] [(0,0,1,(.n 24))]),
 oo 185 (.bslice 25 36 6 1 [.lit (.int .i64 0),.lit (.int .i64 0),.own 1 0 [],.own 1 0 [],.lit (.int .i64 0),.lit (.int .i64 0)] [(0,(.t 184))]),
 oo 186 (.app 25 36 6 80 (.t 183) (.t 185)),
 oo 187 (.faddr 27 4 (.t 12) 4),
 ov (.store 25 1 (.t 187) (.t 186))]) (.seq (.reg [oo 188 (.faddr 27 4 (.t 12) 4),
 oo 189 (.load 25 none (.t 188)),
 oo 190 (.len 25 false (.t 189)),
 oo 191 (.bin .gtr 3 0 (.t 190) (.n 2048) 3)]) (.cond (.t 191) (.seq (.draw [oo 192 (.build 27 [.lit (.int .i64 0),.sl 0 [],.sl 0 [],.sl 0 [],.sl 0 [],.lit (.int .i64 0),.lit (.int .i64 0)] []),
 oo 193 (.load 53 none (.g 0)),
 ov (.store 27 7 (.t 2) (.t 192)),
 oo 3 (.asg (.t 193))] [[],[],[0,0],[1,2,0,1,2]]) .ret) .skip))) (.seq (.reg [om 194 15,
 oo 195 (.faddr 49 1 (.t 1) 1),
 oo 196 (.load 3 none (.t 195)),
 oo 197 (.iaddr 34 1 (.t 194) (.t 196)),
 oo 198 (.load 3 none (.t 197)),
 oo 199 (.faddr 27 6 (.t 12) 6),
 ov (.store 3 1 (.t 199) (.t 198))]) (.seq (.reg [oo 200 (.load 27 (some 7) (.t 12)),
 ov (.store 27 7 (.t 2) (.t 200)),
 oo 3 (.asg (.c .nilIface))]) .ret)))))))))))))
abbrev c3p:Nat:=22
theorem c2h:fnC pg 22 201 [(.cells 2 7),(.tmp 3)] c4c:=a05 Go.Proofs.Tryd.f22 [(.cell 2 27),(.tmp 3)] (by kernel_rfl)
@[go_sem] theorem d9k:fnB pg 22=true:=by kernel_rfl
def a48:IC:=(.seq (.reg [oo 11 (.bin .lss 3 0 (.t 10) (.t 9) 3)]) (.seq (.cond (.t 11) .skip (.exit 0)) (.seq (.block 1 (.seq (.reg [om 12 10,
 oo 13 (.iaddr 47 6 (.t 8) (.t 10)),
 oo 14 (.load 46 (some 6) (.t 13)),
 oo 6 (.alloc 46 [.lit (.int .i64 0),.own 1 0 [],.own 1 0 [],.own 1 0 [],.lit (.bool false),.own 1 0 []]),
 oo 5 (.asg (.t 12)),
 ov (.store 46 6 (.t 6) (.t 14))]) (.seq (.reg [oo 15 (.faddr 46 0 (.t 6) 0),
 oo 16 (.load 3 none (.t 15)),
 oo 17 (.bin .eql 3 0 (.t 16) (.n 1) 3)]) (.cond (.t 17) (.seq (.reg [om 18 1,
 om 19 5,
 oo 20 (.iaddr 101 4 (.t 18) (.t 19)),
 oo 21 (.load 110 (some 4) (.t 20)),
 ov (.store 110 4 (.t 4) (.t 21))]) .ret) .skip)))) (.reg [oo 22 (.bin .add 3 0 (.t 10) (.n 1) 3),
 om 10 22]))))
def b35:IC:=(.seq (.reg [oo 2 (.box 49 2 (.t 0)),
 oo 4 (.alloc 110 [.lit (.int .i64 0),.lit (.int .i64 0),.lit (.int .i64 0),.lit (.int .i64 0)])]) (.seq (.seq (.reg [oo 7 (.faddr 49 0 (.t 2) 0),
 oo 8 (.load 47 none (.t 7)),
 oo 9 (.len 47 false (.t 8)),
 oo 10 (.mv (.n 0))]) (.block 0 (.loop a48))) (.seq (.reg [om 23 1,
 om 24 1,
 oo 25 (.len 101 false (.t 24)),
 oo 26 (.bin .sub 3 0 (.t 25) (.n 1) 3),
 oo 27 (.iaddr 101 4 (.t 23) (.t 26)),
 oo 28 (.load 110 (some 4) (.t 27)),
 ov (.store 110 4 (.t 4) (.t 28))]) .ret)))
abbrev c1j:Nat:=49
theorem b5x:fnC pg 49 29 [(.cells 4 4)] b35:=a05 Go.Proofs.Tryd.f49 [(.cell 4 110)] (by kernel_rfl)
@[go_sem] theorem d18:fnB pg 49=true:=by kernel_rfl
def a6j:IC:=(.seq (.reg [oo 23 (.bin .lss 3 0 (.t 22) (.t 21) 3)]) (.seq (.cond (.t 23) .skip (.exit 1)) (.seq (.block 2 (.seq (.reg [oo 24 (.iaddr 34 1 (.t 20) (.t 22)),
 oo 25 (.load 3 none (.t 24)),
 oo 9 (.asg (.t 25))]) (.draw [oo 26 (.faddr 36 2 (.t 7) 2),
 oo 27 (.load 34 none (.t 26)),
 om 28 2,
 om 29 9,
 oo 30 (.iaddr 34 1 (.t 28) (.t 29)),
 oo 31 (.load 3 none (.t 30)),
 oo 32 (.bslice 34 3 1 1 [.lit (.int .i64 0)] [(0,(.t 31))]),
 oo 33 (.app 34 3 1 8 (.t 27) (.t 32)),
 oo 34 (.faddr 36 2 (.t 7) 2),
 ov (.store 34 1 (.t 34) (.t 33))] [[],[0],[],[],[2,3],[4],[5],[1,6],[0,1,2,3,4,5,6,7],[8,7,7,0,1,2,3,4,5,6,7]]))) (.reg [oo 35 (.bin .add 3 0 (.t 22) (.n 1) 3),
 om 22 35]))))
def b36:IC:=(.seq (.reg [oo 4 (.box 46 6 (.t 1)),
 oo 6 (.alloc 36 [.lit (.int .i64 0),.lit (.int .i64 0),.own 1 0 [],.own 1 0 [],.lit (.int .i64 0),.lit (.int .i64 0)])]) (.seq (.reg [oo 10 (.faddr 46 0 (.t 4) 0),
 oo 11 (.load 3 none (.t 10)),
 oo 12 (.faddr 46 2 (.t 4) 2),
 oo 13 (.load 34 none (.t 12)),
 oo 14 (.build 36 [.lit (.int .i64 0),.lit (.int .i64 0),.own 1 0 [],.own 1 0 [],.lit (.int .i64 0),.lit (.int .i64 0)] [(0,0,1,(.t 11)),(3,3,1,(.t 13))]),
 oo 7 (.alloc 36 [.lit (.int .i64 0),.lit (.int .i64 0),.own 1 0 [],.own 1 0 [],.lit (.int .i64 0),.lit (.int .i64 0)]),
 ov (.store 36 6 (.t 7) (.t 14))]) (.seq (.block 0 (.seq (.reg [oo 16 (.faddr 46 0 (.t 4) 0),
 oo 17 (.load 3 none (.t 16)),
 oc 18 63 [(false,(.t 17))] [3],
 oo 15 (.asg (.t 18))]) (.cond (.t 15) (.seq (.reg [oo 19 (.faddr 46 1 (.t 4) 1),
 oo 20 (.load 34 none (.t 19)),
 oo 21 (.len 34 false (.t 20)),
 oo 22 (.mv (.n 0))]) (.block 1 (.loop a6j))) (.seq (.reg [oo 37 (.faddr 46 0 (.t 4) 0),
 oo 38 (.load 3 none (.t 37)),
 oo 39 (.bin .eql 3 0 (.t 38) (.n 2) 3),
 oo 36 (.asg (.t 39))]) (.cond (.t 36) (.seq (.reg [om 40 0,
 oo 41 (.nilck (.t 40)),
 oo 42 (.faddr 27 2 (.t 41) 2),
 oo 43 (.load 23 none (.t 42)),
 oo 44 (.len 23 false (.t 43)),
 oo 45 (.bslice 34 3 1 1 [.lit (.int .i64 0)] [(0,(.t 44))]),
 oo 46 (.faddr 36 3 (.t 7) 3),
 ov (.store 34 1 (.t 46) (.t 45))]) (.draw [om 47 0,
 om 48 0,
 oo 49 (.nilck (.t 48)),
 oo 50 (.faddr 27 2 (.t 49) 2),
 oo 51 (.load 23 none (.t 50)),
 oo 52 (.faddr 46 3 (.t 4) 3),
 oo 53 (.load 44 (some 3) (.t 52)),
 oc 54 27 [(false,(.t 53))] [44],
 oo 55 (.bslice 23 44 3 1 [.own 1 0 [],.lit (.bool false),.own 1 0 []] [(0,(.t 54))]),
 oo 56 (.app 23 44 3 56 (.t 51) (.t 55)),
 oo 57 (.nilck (.t 47)),
 oo 58 (.faddr 27 2 (.t 57) 2),
 ov (.store 23 1 (.t 58) (.t 56))] [[],[],[1],[2],[3],[],[5],[6],[7],[4,8,7],[0,0,1,2,3,4,5,6,7,8,9],[10,0,1,2,3,4,5,6,7,8,9],[11,9,9,0,1,2,3,4,5,6,7,8,9]])) (.seq (.reg [oo 60 (.faddr 46 0 (.t 4) 0),
 oo 61 (.load 3 none (.t 60)),
 oo 62 (.bin .eql 3 0 (.t 61) (.n 3) 3),
 oo 59 (.asg (.t 62))]) (.cond (.t 59) (.reg [oo 63 (.faddr 46 2 (.t 4) 2),
 oo 64 (.load 34 none (.t 63)),
 oo 65 (.slice 34 1 (.t 64) none (some (.n 1)) none),
 oo 66 (.faddr 36 3 (.t 7) 3),
 ov (.store 34 1 (.t 66) (.t 65))]) .skip))))))) (.seq (.reg [oo 67 (.load 36 (some 6) (.t 7)),
 ov (.store 36 6 (.t 6) (.t 67))]) .ret))))
abbrev c1k:Nat:=50
@[go_sem] theorem d19:fnB pg 50=true:=by kernel_rfl
theorem b37:fnX pg 50 68 [(.cells 6 6)] [(.cell 6 36)] b36:=c39 Go.Proofs.Tryd.f50 (by kernel_rfl)
def a6h:IC:=(.seq (.reg [oo 36 (.bin .lss 3 0 (.t 35) (.t 34) 3)]) (.seq (.cond (.t 36) .skip (.exit 0)) (.seq (.block 1 (.seq (.reg [oo 37 (.iaddr 34 1 (.t 33) (.t 35)),
 oo 38 (.load 3 none (.t 37)),
 oo 12 (.asg (.t 38))]) (.reg [om 39 10,
 oo 40 (.faddr 51 1 (.t 4) 1),
 oo 41 (.load 24 none (.t 40)),
 om 42 12,
 oo 43 (.iaddr 24 2 (.t 41) (.t 42)),
 oo 44 (.load 39 (some 2) (.t 43)),
 oo 45 (.bslice 24 39 2 1 [.own 1 0 [],.lit (.bool false)] [(0,(.t 44))]),
 oo 46 (.app 24 39 2 32 (.t 39) (.t 45)),
 oo 10 (.asg (.t 46))]))) (.reg [oo 47 (.bin .add 3 0 (.t 35) (.n 1) 3),
 om 35 47]))))
def b3x:IC:=(.seq (.reg [oo 3 (.box 49 2 (.t 0)),
 oo 4 (.box 51 5 (.t 1)),
 oo 6 (.asg (.n 0)),
 oo 7 (.asg (.n 0))]) (.seq (.reg [oo 15 (.faddr 49 0 (.t 3) 0),
 oo 16 (.load 47 none (.t 15)),
 om 17 2,
 oo 18 (.iaddr 47 6 (.t 16) (.t 17)),
 oo 19 (.load 46 (some 6) (.t 18)),
 oo 8 (.alloc 46 [.lit (.int .i64 0),.own 1 0 [],.own 1 0 [],.own 1 0 [],.lit (.bool false),.own 1 0 []]),
 ov (.store 46 6 (.t 8) (.t 19))]) (.seq (.reg [oo 20 (.faddr 51 1 (.t 4) 1),
 oo 21 (.load 24 none (.t 20)),
 om 22 2,
 oo 23 (.iaddr 24 2 (.t 21) (.t 22)),
 oo 24 (.faddr 39 0 (.t 23) 0),
 oo 25 (.load 34 none (.t 24)),
 oc 26 73 [(false,(.t 25))] [34],
 oo 9 (.asg (.t 26))]) (.seq (.seq (.reg [oo 27 (.faddr 46 0 (.t 8) 0),
 oo 28 (.load 3 none (.t 27)),
 oc 29 63 [(false,(.t 28))] [3],
 oo 30 (.un .not 4 (.t 29))]) (.cond (.t 30) (.seq (.reg [om 31 9,
 oo 6 (.asg (.t 31)),
 oo 7 (.asg (.n 1))]) .ret) .skip)) (.seq (.reg [oo 10 (.asg (.nl 2))]) (.seq (.seq (.reg [oo 32 (.faddr 46 1 (.t 8) 1),
 oo 33 (.load 34 none (.t 32)),
 oo 34 (.len 34 false (.t 33)),
 oo 35 (.mv (.n 0))]) (.block 0 (.loop a6h))) (.seq (.reg [oo 49 (.faddr 46 0 (.t 8) 0),
 oo 50 (.load 3 none (.t 49)),
 oo 51 (.faddr 46 2 (.t 8) 2),
 oo 52 (.load 34 none (.t 51)),
 om 53 10,
 oc 54 74 [(false,(.t 50)),(false,(.t 52)),(false,(.t 53))] [3,34,24],
 oo 48 (.mva (.t 54)),
 oo 55 (.ext (.t 48) 0),
 oo 56 (.ext (.t 48) 1),
 oo 13 (.asg (.t 55)),
 oo 14 (.asg (.t 56))]) (.seq (.reg [om 57 9,
 om 58 13,
 oo 6 (.asg (.t 57)),
 oo 7 (.asg (.t 58))]) .ret))))))))
abbrev c1h:Nat:=48
theorem b5t:fnC pg 48 59 [(.tmp 6),(.tmp 7)] b3x:=a05 Go.Proofs.Tryd.f48 [(.tmp 6),(.tmp 7)] (by kernel_rfl)
@[go_sem] theorem d1c:fnB pg 48=true:=by kernel_rfl
def a6k:IC:=(.seq (.reg [oo 0 (.asg (.c (.bool false)))]) (.seq (.reg [oo 4 (.bslice 34 3 1 2 [.lit (.int .i64 0)] [(0,(.n 0)),(1,(.n 2))]),
 oo 5 (.build 46 [.lit (.int .i64 0),.own 1 0 [],.own 1 0 [],.own 1 0 [],.lit (.bool false),.own 1 0 []] [(0,0,1,(.n 1)),(2,2,1,(.t 4))]),
 oo 6 (.bslice 47 46 6 1 [.lit (.int .i64 0),.own 1 0 [],.own 1 0 [],.own 1 0 [],.lit (.bool false),.own 1 0 []] [(0,(.t 5))]),
 oo 7 (.build 49 [.own 6 0 [],.lit (.int .i64 0)] [(0,0,1,(.t 6))]),
 oc 8 22 [(false,(.t 7))] [49],
 oo 3 (.mva (.t 8)),
 oo 9 (.ext (.t 3) 0),
 oo 10 (.ext (.t 3) 1),
 oo 1 (.alloc 27 [.lit (.int .i64 0),.own 3 0 [],.own 3 0 [],.own 2 0 [],.own 6 0 [],.lit (.int .i64 0),.lit (.int .i64 0)]),
 ov (.store 27 7 (.t 1) (.t 9)),
 oo 2 (.asg (.t 10))]) (.seq (.reg [om 11 2,
 oo 12 (.bin .eql 53 2 (.t 11) (.c .nilIface) 53),
 om 13 12,
 og 14 (.faddr 27 4 (.t 1) 4) 2 13 true,
 og 15 (.load 25 none (.t 14)) 2 13 true,
 og 16 (.len 25 false (.t 15)) 2 13 true,
 og 17 (.bin .eql 3 0 (.t 16) (.n 1) 3) 2 13 true,
 oo 18 (.pick (.t 13) (.t 17) (.c (.bool false))),
 om 19 18,
 og 20 (.faddr 27 4 (.t 1) 4) 8 19 true,
 og 21 (.load 25 none (.t 20)) 8 19 true,
 og 22 (.iaddr 25 6 (.t 21) (.n 0)) 8 19 true,
 og 23 (.faddr 36 0 (.t 22) 0) 8 19 true,
 og 24 (.load 3 none (.t 23)) 8 19 true,
 og 25 (.bin .eql 3 0 (.t 24) (.n 24) 3) 8 19 true,
 oo 26 (.pick (.t 19) (.t 25) (.c (.bool false))),
 oo 0 (.asg (.t 26))]) .ret)))
abbrev b0c:Nat:=20
theorem a8y:fnC pg 20 27 [(.tmp 0)] a6k:=a05 Go.Proofs.Tryd.f20 [(.tmp 0)] (by kernel_rfl)
@[go_sem] theorem c1d:fnB pg 20=true:=by kernel_rfl
def a1y:IC:=(.seq (.seq (.reg [om 36 9,
 om 37 0,
 oo 38 (.bin .lss 3 0 (.t 36) (.t 37) 3)]) (.cond (.t 38) .skip (.exit 0))) (.seq (.block 1 (.reg [oo 41 (.faddr 49 0 (.t 8) 0),
 oo 42 (.load 47 none (.t 41)),
 om 43 9,
 oo 44 (.bslice 34 3 1 1 [.lit (.int .i64 0)] [(0,(.t 43))]),
 oo 45 (.build 46 [.lit (.int .i64 0),.own 1 0 [],.own 1 0 [],.own 1 0 [],.lit (.bool false),.own 1 0 []] [(0,0,1,(.n 8)),(1,1,1,(.t 44))]),
 oo 46 (.bslice 47 46 6 1 [.lit (.int .i64 0),.own 1 0 [],.own 1 0 [],.own 1 0 [],.lit (.bool false),.own 1 0 []] [(0,(.t 45))]),
 oo 47 (.app 47 46 6 112 (.t 42) (.t 46)),
 oo 48 (.faddr 49 0 (.t 8) 0),
 ov (.store 47 1 (.t 48) (.t 47))])) (.reg [om 39 9,
 oo 40 (.bin .add 3 0 (.t 39) (.n 1) 3),
 oo 9 (.asg (.t 40))])))
def a1z:IC:=(.seq (.seq (.reg [om 102 13,
 om 103 0,
 om 104 12,
 oo 105 (.bin .mul 3 0 (.t 103) (.t 104) 3),
 oo 106 (.bin .lss 3 0 (.t 102) (.t 105) 3)]) (.cond (.t 106) .skip (.exit 2))) (.seq (.block 3 (.seq (.reg [oo 109 (.faddr 27 4 (.t 10) 4),
 oo 110 (.load 25 none (.t 109)),
 om 111 13,
 oo 112 (.iaddr 25 6 (.t 110) (.t 111)),
 oo 113 (.load 36 (some 6) (.t 112)),
 oo 14 (.alloc 36 [.lit (.int .i64 0),.lit (.int .i64 0),.own 1 0 [],.own 1 0 [],.lit (.int .i64 0),.lit (.int .i64 0)]),
 ov (.store 36 6 (.t 14) (.t 113))]) (.seq (.draw [oo 114 (.faddr 36 0 (.t 14) 0),
 oo 115 (.load 3 none (.t 114)),
 oo 116 (.bin .neq 3 0 (.t 115) (.n 8) 3),
 om 117 116,
 og 118 (.faddr 36 1 (.t 14) 1) 3 117 false,
 og 119 (.load 3 none (.t 118)) 3 117 false,
 og 120 (.mv (.t 13)) 3 117 false,
 og 121 (.mv (.t 12)) 3 117 false,
 og 122 (.bin .quo 3 0 (.t 120) (.t 121) 3) 3 117 false,
 og 123 (.bin .add 3 0 (.t 122) (.n 1) 3) 3 117 false,
 og 124 (.bin .neq 3 0 (.t 119) (.t 123) 3) 3 117 false,
 oo 125 (.pick (.t 117) (.c (.bool true)) (.t 124)),
 om 126 125,
 og 127 (.faddr 36 2 (.t 14) 2) 12 126 false,
 og 128 (.load 34 none (.t 127)) 12 126 false,
 og 129 (.mv (.t 13)) 12 126 false,
 og 130 (.mv (.t 12)) 12 126 false,
 og 131 (.bin .quo 3 0 (.t 129) (.t 130) 3) 12 126 false,
 og 132 (.bslice 34 3 1 1 [.lit (.int .i64 0)] [(0,(.t 131))]) 12 126 false,
 ⟨(some 133),.call 19 [(false,(.t 128)),(false,(.t 132))] [34,34],(some (12,126,false))⟩,
 og 134 (.un .not 4 (.t 133)) 12 126 false,
 oo 135 (.pick (.t 126) (.c (.bool true)) (.t 134))] [[],[0],[1],[2],[3],[4,3],[3],[3],[6,7,3],[8,3],[5,9,3],[3,10],[11,3],[12],[13,12],[12],[12],[15,16,12],[17,12],[14,18,12,12],[19,12],[12,20]]) (.cond (.t 135) (.seq (.reg [oo 4 (.asg (.c (.bool false)))]) .ret) .skip)))) (.reg [om 107 13,
 oo 108 (.bin .add 3 0 (.t 107) (.n 1) 3),
 oo 13 (.asg (.t 108))])))
def a4q:IC:=(.seq (.reg [oo 4 (.asg (.c (.bool false)))]) (.seq (.reg [oc 15 20 [] [],
 oo 5 (.asg (.t 15))]) (.seq (.seq (.reg [om 16 5,
 oo 17 (.un .not 4 (.t 16))]) (.cond (.t 17) (.seq (.reg [oo 4 (.asg (.c (.bool false)))]) .ret) .skip)) (.seq (.reg [om 18 0,
 oc 19 13 [(false,(.t 18)),(false,(.n 40))] [3,3],
 oo 20 (.bin .add 3 0 (.t 19) (.n 1) 3),
 oo 0 (.asg (.t 20))]) (.seq (.reg [om 21 1,
 oc 22 13 [(false,(.t 21)),(false,(.n 3000))] [3,3],
 oo 23 (.bin .add 3 0 (.t 22) (.n 1) 3),
 oo 1 (.asg (.t 23))]) (.seq (.reg [oo 24 (.bslice 34 3 1 1 [.lit (.int .i64 0)] [(0,(.n 0))]),
 oo 6 (.asg (.t 24))]) (.seq (.reg [om 25 1,
 oo 26 (.bin .quo 3 0 (.t 25) (.n 250) 3),
 oo 27 (.bin .add 3 0 (.t 26) (.n 1) 3),
 oo 7 (.asg (.t 27))]) (.seq (.reg [om 28 6,
 om 29 7,
 oo 30 (.bslice 34 3 1 2 [.lit (.int .i64 0)] [(0,(.t 29)),(1,(.n 250))]),
 oo 31 (.app 34 3 1 8 (.t 28) (.t 30)),
 oo 6 (.asg (.t 31))]) (.seq (.reg [om 32 6,
 oo 33 (.build 46 [.lit (.int .i64 0),.own 1 0 [],.own 1 0 [],.own 1 0 [],.lit (.bool false),.own 1 0 []] [(0,0,1,(.n 1)),(2,2,1,(.t 32))]),
 oo 34 (.bslice 47 46 6 1 [.lit (.int .i64 0),.own 1 0 [],.own 1 0 [],.own 1 0 [],.lit (.bool false),.own 1 0 []] [(0,(.t 33))]),
 oo 35 (.build 49 [.own 6 0 [],.lit (.int .i64 0)] [(0,0,1,(.t 34))]),
 oo 8 (.alloc 49 [.own 6 0 [],.lit (.int .i64 0)]),
 ov (.store 49 2 (.t 8) (.t 35))]) (.seq (.seq (.reg [oo 9 (.asg (.n 0))]) (.block 0 (.loop a1y))) (.seq (.reg [om 49 0,
 oo 50 (.faddr 49 1 (.t 8) 1),
 ov (.store 3 1 (.t 50) (.t 49))]) (.seq (.reg [oo 52 (.load 49 (some 2) (.t 8)),
 oc 53 22 [(false,(.t 52))] [49],
 oo 51 (.mva (.t 53)),
 oo 54 (.ext (.t 51) 0),
 oo 55 (.ext (.t 51) 1),
 oo 10 (.alloc 27 [.lit (.int .i64 0),.own 3 0 [],.own 3 0 [],.own 2 0 [],.own 6 0 [],.lit (.int .i64 0),.lit (.int .i64 0)]),
 ov (.store 27 7 (.t 10) (.t 54)),
 oo 11 (.asg (.t 55))]) (.seq (.seq (.reg [om 56 11,
 oo 57 (.bin .neq 53 2 (.t 56) (.c .nilIface) 53)]) (.cond (.t 57) (.seq (.reg [oo 4 (.asg (.c (.bool false)))]) .ret) .skip)) (.seq (.reg [om 58 7,
 oo 59 (.bin .mul 3 0 (.t 58) (.n 250) 3),
 oo 60 (.bin .add 3 0 (.t 59) (.n 1024) 3),
 oo 61 (.bin .sub 3 0 (.t 60) (.n 1) 3),
 oo 62 (.bin .quo 3 0 (.t 61) (.n 1024) 3),
 oo 12 (.asg (.t 62))]) (.seq (.seq (.reg [oo 63 (.faddr 27 4 (.t 10) 4),
 oo 64 (.load 25 none (.t 63)),
 oo 65 (.len 25 false (.t 64)),
 om 66 0,
 om 67 12,
 oo 68 (.bin .mul 3 0 (.t 66) (.t 67) 3),
 oo 69 (.bin .add 3 0 (.t 68) (.n 1) 3),
 oo 70 (.bin .neq 3 0 (.t 65) (.t 69) 3),
 om 71 70,
 og 72 (.faddr 27 1 (.t 10) 1) 8 71 false,
 og 73 (.load 22 none (.t 72)) 8 71 false,
 og 74 (.len 22 false (.t 73)) 8 71 false,
 og 75 (.mv (.t 0)) 8 71 false,
 og 76 (.bin .add 3 0 (.t 75) (.n 1) 3) 8 71 false,
 og 77 (.bin .neq 3 0 (.t 74) (.t 76) 3) 8 71 false,
 oo 78 (.pick (.t 71) (.c (.bool true)) (.t 77)),
 om 79 78,
 og 80 (.faddr 27 5 (.t 10) 5) 16 79 false,
 og 81 (.load 3 none (.t 80)) 16 79 false,
 og 82 (.bin .neq 3 0 (.t 81) (.n 0) 3) 16 79 false,
 oo 83 (.pick (.t 79) (.c (.bool true)) (.t 82)),
 om 84 83,
 og 85 (.faddr 27 6 (.t 10) 6) 21 84 false,
 og 86 (.load 3 none (.t 85)) 21 84 false,
 og 87 (.mv (.t 0)) 21 84 false,
 og 88 (.bin .neq 3 0 (.t 86) (.t 87) 3) 21 84 false,
 oo 89 (.pick (.t 84) (.c (.bool true)) (.t 88)),
 om 90 89,
 og 91 (.faddr 27 2 (.t 10) 2) 27 90 false,
 og 92 (.load 23 none (.t 91)) 27 90 false,
 og 93 (.len 23 false (.t 92)) 27 90 false,
 og 94 (.bin .neq 3 0 (.t 93) (.n 0) 3) 27 90 false,
 oo 95 (.pick (.t 90) (.c (.bool true)) (.t 94)),
 om 96 95,
 og 97 (.faddr 27 3 (.t 10) 3) 33 96 false,
 og 98 (.load 24 none (.t 97)) 33 96 false,
 og 99 (.len 24 false (.t 98)) 33 96 false,
 og 100 (.bin .neq 3 0 (.t 99) (.n 0) 3) 33 96 false,
 oo 101 (.pick (.t 96) (.c (.bool true)) (.t 100))]) (.cond (.t 101) (.seq (.reg [oo 4 (.asg (.c (.bool false)))]) .ret) .skip)) (.seq (.seq (.reg [oo 13 (.asg (.n 0))]) (.block 2 (.loop a1z))) (.seq (.reg [om 136 5,
 om 137 136,
 og 138 (.faddr 27 4 (.t 10) 4) 1 137 true,
 og 139 (.load 25 none (.t 138)) 1 137 true,
 og 140 (.mv (.t 0)) 1 137 true,
 og 141 (.mv (.t 12)) 1 137 true,
 og 142 (.bin .mul 3 0 (.t 140) (.t 141) 3) 1 137 true,
 og 143 (.iaddr 25 6 (.t 139) (.t 142)) 1 137 true,
 og 144 (.faddr 36 0 (.t 143) 0) 1 137 true,
 og 145 (.load 3 none (.t 144)) 1 137 true,
 og 146 (.bin .eql 3 0 (.t 145) (.n 24) 3) 1 137 true,
 oo 147 (.pick (.t 137) (.t 146) (.c (.bool false))),
 oo 4 (.asg (.t 147))]) .ret)))))))))))))))))
abbrev a8e:Nat:=6
theorem a6u:fnC pg 6 148 [(.tmp 4)] a4q:=a05 Go.Proofs.Tryd.f6 [(.tmp 4)] (by kernel_rfl)
@[go_sem] theorem b6m:fnB pg 6=true:=by kernel_rfl
def a1q:IC:=(.seq (.seq (.reg [om 22 7,
 om 23 0,
 oo 24 (.bin .lss 3 0 (.t 22) (.t 23) 3)]) (.cond (.t 24) .skip (.exit 0))) (.seq (.block 1 (.seq (.draw [oo 27 (.faddr 49 0 (.t 6) 0),
 oo 28 (.load 47 none (.t 27)),
 om 29 7,
 om 30 1,
 oo 31 (.bslice 34 3 1 3 [.lit (.int .i64 0)] [(0,(.t 29)),(1,(.n 0)),(2,(.t 30))]),
 oo 32 (.build 46 [.lit (.int .i64 0),.own 1 0 [],.own 1 0 [],.own 1 0 [],.lit (.bool false),.own 1 0 []] [(0,0,1,(.n 3)),(2,2,1,(.t 31))]),
 om 33 1,
 oo 34 (.bslice 34 3 1 1 [.lit (.int .i64 0)] [(0,(.t 33))]),
 oo 35 (.build 39 [.own 1 0 [],.lit (.bool false)] [(0,0,1,(.t 34))]),
 om 36 1,
 oo 37 (.mks 34 3 1 8 [.lit (.int .i64 0)] (.t 36) (.t 36)),
 oo 38 (.build 44 [.own 1 0 [],.lit (.bool false),.own 1 0 []] [(0,0,2,(.t 35)),(1,2,1,(.t 37))]),
 oo 39 (.build 46 [.lit (.int .i64 0),.own 1 0 [],.own 1 0 [],.own 1 0 [],.lit (.bool false),.own 1 0 []] [(0,0,1,(.n 2)),(3,3,3,(.t 38))]),
 oo 40 (.bslice 47 46 6 2 [.lit (.int .i64 0),.own 1 0 [],.own 1 0 [],.own 1 0 [],.lit (.bool false),.own 1 0 []] [(0,(.t 32)),(1,(.t 39))]),
 oo 41 (.app 47 46 6 112 (.t 28) (.t 40)),
 oo 42 (.faddr 49 0 (.t 6) 0),
 ov (.store 47 1 (.t 42) (.t 41))] [[],[0],[],[],[2,3],[4],[],[6],[7],[],[9,9],[8,10],[11],[5,12],[1,13],[0,1,2,3,4,5,6,7,8,9,10,11,12,13,14],[15,14,14,0,1,2,3,4,5,6,7,8,9,10,11,12,13,14]]) (.reg [oo 43 (.faddr 49 0 (.t 6) 0),
 oo 44 (.load 47 none (.t 43)),
 om 45 7,
 oo 46 (.bin .mul 3 0 (.n 2) (.t 45) 3),
 oo 47 (.bin .add 3 0 (.t 46) (.n 1) 3),
 oo 48 (.iaddr 47 6 (.t 44) (.t 47)),
 oo 49 (.faddr 46 3 (.t 48) 3),
 oo 50 (.faddr 44 2 (.t 49) 1),
 oo 51 (.load 34 none (.t 50)),
 om 52 7,
 oo 53 (.iaddr 34 1 (.t 51) (.n 0)),
 ov (.store 3 1 (.t 53) (.t 52))]))) (.reg [om 25 7,
 oo 26 (.bin .add 3 0 (.t 25) (.n 1) 3),
 oo 7 (.asg (.t 26))])))
def a1r:IC:=(.seq (.seq (.reg [om 97 10,
 om 98 0,
 oo 99 (.bin .lss 3 0 (.t 97) (.t 98) 3)]) (.cond (.t 99) .skip (.exit 2))) (.seq (.block 3 (.seq (.reg [oo 102 (.faddr 27 4 (.t 8) 4),
 oo 103 (.load 25 none (.t 102)),
 om 104 10,
 oo 105 (.bin .mul 3 0 (.n 2) (.t 104) 3),
 oo 106 (.iaddr 25 6 (.t 103) (.t 105)),
 oo 107 (.load 36 (some 6) (.t 106)),
 oo 11 (.alloc 36 [.lit (.int .i64 0),.lit (.int .i64 0),.own 1 0 [],.own 1 0 [],.lit (.int .i64 0),.lit (.int .i64 0)]),
 ov (.store 36 6 (.t 11) (.t 107))]) (.seq (.reg [oo 108 (.faddr 27 4 (.t 8) 4),
 oo 109 (.load 25 none (.t 108)),
 om 110 10,
 oo 111 (.bin .mul 3 0 (.n 2) (.t 110) 3),
 oo 112 (.bin .add 3 0 (.t 111) (.n 1) 3),
 oo 113 (.iaddr 25 6 (.t 109) (.t 112)),
 oo 114 (.load 36 (some 6) (.t 113)),
 oo 12 (.alloc 36 [.lit (.int .i64 0),.lit (.int .i64 0),.own 1 0 [],.own 1 0 [],.lit (.int .i64 0),.lit (.int .i64 0)]),
 ov (.store 36 6 (.t 12) (.t 114))]) (.seq (.reg [oo 115 (.faddr 36 0 (.t 11) 0),
 oo 116 (.load 3 none (.t 115)),
 oo 117 (.bin .neq 3 0 (.t 116) (.n 3) 3),
 om 118 117,
 og 119 (.faddr 36 3 (.t 11) 3) 3 118 false,
 og 120 (.load 34 none (.t 119)) 3 118 false,
 og 121 (.mv (.t 10)) 3 118 false,
 og 122 (.bslice 34 3 1 1 [.lit (.int .i64 0)] [(0,(.t 121))]) 3 118 false,
 ⟨(some 123),.call 19 [(false,(.t 120)),(false,(.t 122))] [34,34],(some (3,118,false))⟩,
 og 124 (.un .not 4 (.t 123)) 3 118 false,
 oo 125 (.pick (.t 118) (.c (.bool true)) (.t 124)),
 om 126 125,
 og 127 (.faddr 36 0 (.t 12) 0) 11 126 false,
 og 128 (.load 3 none (.t 127)) 11 126 false,
 og 129 (.bin .neq 3 0 (.t 128) (.n 2) 3) 11 126 false,
 oo 130 (.pick (.t 126) (.c (.bool true)) (.t 129)),
 om 131 130,
 og 132 (.faddr 36 3 (.t 12) 3) 16 131 false,
 og 133 (.load 34 none (.t 132)) 16 131 false,
 og 134 (.mv (.t 10)) 16 131 false,
 og 135 (.bslice 34 3 1 1 [.lit (.int .i64 0)] [(0,(.t 134))]) 16 131 false,
 ⟨(some 136),.call 19 [(false,(.t 133)),(false,(.t 135))] [34,34],(some (16,131,false))⟩,
 og 137 (.un .not 4 (.t 136)) 16 131 false,
 oo 138 (.pick (.t 131) (.c (.bool true)) (.t 137)),
 om 139 138,
 og 140 (.faddr 27 2 (.t 8) 2) 24 139 false,
 og 141 (.load 23 none (.t 140)) 24 139 false,
 og 142 (.mv (.t 10)) 24 139 false,
 og 143 (.iaddr 23 3 (.t 141) (.t 142)) 24 139 false,
 og 144 (.faddr 44 2 (.t 143) 1) 24 139 false,
 og 145 (.load 34 none (.t 144)) 24 139 false,
 og 146 (.iaddr 34 1 (.t 145) (.n 0)) 24 139 false,
 og 147 (.load 3 none (.t 146)) 24 139 false,
 og 148 (.mv (.t 10)) 24 139 false,
 og 149 (.bin .neq 3 0 (.t 147) (.t 148) 3) 24 139 false,
 oo 150 (.pick (.t 139) (.c (.bool true)) (.t 149)),
 om 151 150,
 og 152 (.faddr 36 4 (.t 11) 4) 36 151 false,
 og 153 (.load 3 none (.t 152)) 36 151 false,
 og 154 (.bin .neq 3 0 (.t 153) (.n 0) 3) 36 151 false,
 oo 155 (.pick (.t 151) (.c (.bool true)) (.t 154)),
 om 156 155,
 og 157 (.faddr 36 5 (.t 11) 5) 41 156 false,
 og 158 (.load 3 none (.t 157)) 41 156 false,
 og 159 (.mv (.t 1)) 41 156 false,
 og 160 (.bin .neq 3 0 (.t 158) (.t 159) 3) 41 156 false,
 oo 161 (.pick (.t 156) (.c (.bool true)) (.t 160)),
 om 162 161,
 og 163 (.faddr 36 5 (.t 12) 5) 47 162 false,
 og 164 (.load 3 none (.t 163)) 47 162 false,
 og 165 (.mv (.t 1)) 47 162 false,
 og 166 (.bin .neq 3 0 (.t 164) (.t 165) 3) 47 162 false,
 oo 167 (.pick (.t 162) (.c (.bool true)) (.t 166))]) (.cond (.t 167) (.seq (.reg [oo 4 (.asg (.c (.bool false)))]) .ret) .skip))))) (.reg [om 100 10,
 oo 101 (.bin .add 3 0 (.t 100) (.n 1) 3),
 oo 10 (.asg (.t 101))])))
def a4c:IC:=(.seq (.reg [oo 4 (.asg (.c (.bool false)))]) (.seq (.reg [oc 13 20 [] [],
 oo 5 (.asg (.t 13))]) (.seq (.seq (.reg [om 14 5,
 oo 15 (.un .not 4 (.t 14))]) (.cond (.t 15) (.seq (.reg [oo 4 (.asg (.c (.bool false)))]) .ret) .skip)) (.seq (.reg [om 16 0,
 oc 17 13 [(false,(.t 16)),(false,(.n 8))] [3,3],
 oo 18 (.bin .add 3 0 (.t 17) (.n 1) 3),
 oo 0 (.asg (.t 18))]) (.seq (.reg [om 19 1,
 oc 20 13 [(false,(.t 19)),(false,(.n 200))] [3,3],
 oo 21 (.bin .add 3 0 (.t 20) (.n 1) 3),
 oo 1 (.asg (.t 21))]) (.seq (.reg [oo 6 (.alloc 49 [.own 6 0 [],.lit (.int .i64 0)])]) (.seq (.seq (.reg [oo 7 (.asg (.n 0))]) (.block 0 (.loop a1q))) (.seq (.reg [om 54 0,
 oo 55 (.bin .mul 3 0 (.n 2) (.t 54) 3),
 oo 56 (.bin .sub 3 0 (.t 55) (.n 1) 3),
 oo 57 (.faddr 49 1 (.t 6) 1),
 ov (.store 3 1 (.t 57) (.t 56))]) (.seq (.reg [oo 59 (.load 49 (some 2) (.t 6)),
 oc 60 22 [(false,(.t 59))] [49],
 oo 58 (.mva (.t 60)),
 oo 61 (.ext (.t 58) 0),
 oo 62 (.ext (.t 58) 1),
 oo 8 (.alloc 27 [.lit (.int .i64 0),.own 3 0 [],.own 3 0 [],.own 2 0 [],.own 6 0 [],.lit (.int .i64 0),.lit (.int .i64 0)]),
 ov (.store 27 7 (.t 8) (.t 61)),
 oo 9 (.asg (.t 62))]) (.seq (.seq (.reg [om 63 9,
 oo 64 (.bin .neq 53 2 (.t 63) (.c .nilIface) 53),
 om 65 64,
 og 66 (.faddr 27 3 (.t 8) 3) 2 65 false,
 og 67 (.load 24 none (.t 66)) 2 65 false,
 og 68 (.len 24 false (.t 67)) 2 65 false,
 og 69 (.mv (.t 0)) 2 65 false,
 og 70 (.bin .neq 3 0 (.t 68) (.t 69) 3) 2 65 false,
 oo 71 (.pick (.t 65) (.c (.bool true)) (.t 70)),
 om 72 71,
 og 73 (.faddr 27 2 (.t 8) 2) 9 72 false,
 og 74 (.load 23 none (.t 73)) 9 72 false,
 og 75 (.len 23 false (.t 74)) 9 72 false,
 og 76 (.mv (.t 0)) 9 72 false,
 og 77 (.bin .neq 3 0 (.t 75) (.t 76) 3) 9 72 false,
 oo 78 (.pick (.t 72) (.c (.bool true)) (.t 77)),
 om 79 78,
 og 80 (.faddr 27 4 (.t 8) 4) 16 79 false,
 og 81 (.load 25 none (.t 80)) 16 79 false,
 og 82 (.len 25 false (.t 81)) 16 79 false,
 og 83 (.mv (.t 0)) 16 79 false,
 og 84 (.bin .mul 3 0 (.n 2) (.t 83) 3) 16 79 false,
 og 85 (.bin .add 3 0 (.t 84) (.n 1) 3) 16 79 false,
 og 86 (.bin .neq 3 0 (.t 82) (.t 85) 3) 16 79 false,
 oo 87 (.pick (.t 79) (.c (.bool true)) (.t 86)),
 om 88 87,
 og 89 (.faddr 27 1 (.t 8) 1) 25 88 false,
 og 90 (.load 22 none (.t 89)) 25 88 false,
 og 91 (.len 22 false (.t 90)) 25 88 false,
 og 92 (.mv (.t 0)) 25 88 false,
 og 93 (.bin .mul 3 0 (.n 2) (.t 92) 3) 25 88 false,
 og 94 (.bin .add 3 0 (.t 93) (.n 1) 3) 25 88 false,
 og 95 (.bin .neq 3 0 (.t 91) (.t 94) 3) 25 88 false,
 oo 96 (.pick (.t 88) (.c (.bool true)) (.t 95))]) (.cond (.t 96) (.seq (.reg [oo 4 (.asg (.c (.bool false)))]) .ret) .skip)) (.seq (.seq (.reg [oo 10 (.asg (.n 0))]) (.block 2 (.loop a1r))) (.seq (.reg [om 168 5,
 om 169 168,
 og 170 (.faddr 27 6 (.t 8) 6) 1 169 true,
 og 171 (.load 3 none (.t 170)) 1 169 true,
 og 172 (.mv (.t 0)) 1 169 true,
 og 173 (.bin .mul 3 0 (.n 2) (.t 172) 3) 1 169 true,
 og 174 (.bin .eql 3 0 (.t 171) (.t 173) 3) 1 169 true,
 oo 175 (.pick (.t 169) (.t 174) (.c (.bool false))),
 oo 4 (.asg (.t 175))]) .ret))))))))))))
abbrev a7s:Nat:=7
theorem a6d:fnC pg 7 176 [(.tmp 4)] a4c:=a05 Go.Proofs.Tryd.f7 [(.tmp 4)] (by kernel_rfl)
@[go_sem] theorem b5z:fnB pg 7=true:=by kernel_rfl
end Go.Ideal.Tryd
end
section
namespace Go.Ideal.Tryd
attribute [local go_sem] eD eT eV
section
variable {G:GG} {bk:Nat->Nat×Nat} {Q:Exit->St->Prop} {st:St}
def b8o (op:Int) (args:List Int) (ins:List Ds):Int×Er:=if (opR op args ins).2.isNil=true then (opU op args ins,.nil) else (0,(opR op args ins).2)
theorem e67 (hS:SentO G bk) (op:Int) (args:List Int) (ins:List Ds) (hf:∀ d∈ins,d.shape.length < 2 ^ 40) (hn:ins.length < 2 ^ 40) (ha:args.length < 2 ^ 40):ACalls pg G b84 [li op,slI args,slD ins] (.tup [li (b8o op args ins).1,a0r bk (b8o op args ins).2]):=by
 by_cases hok:(opR op args ins).2.isNil=true
 ·have:=f8r hS op args ins hf hn ha hok
  simpa [b8o,hok,a0r] using this
 have h0:=d6r hS op args ins hf hn ha
 have hb:(opR op args ins).2.isNil=false:=by simpa using hok
 have hu:b8o op args ins=(0,(opR op args ins).2):=by rw [b8o,if_neg hok]
 rw [hu]
 generalize hr:opR op args ins=r at *
 refine b2p rfl ?_
 simp (disch:=omega) [go_sem,b4p]
 refine a0k h0 (a2y _) (by simp (disch:=omega) [go_sem]) ?_
 simp (disch:=omega) [go_sem,hb]
end
end Go.Ideal.Tryd
end
section
namespace Go.Ideal.Tryd
def b3w (s x:Sp) (o off:Int):Prop:=0 < x.len/\max s.a x.a<=min s.b x.b/\off < o+x.len/\o < off+s.len
def okZ (zs:List (Sp×Int)):Prop:=∀ p∈zs,0<=p.2/\p.2 < 2 ^ 60/\p.1.len < 2 ^ 60
theorem c4d {s x:Sp} {o off:Int} (ho:0<=o/\o < 2 ^ 60) (hx:x.len < 2 ^ 60) (hs:s.len < 2 ^ 60) (hf:0<=off/\off < 2 ^ 62):b8t s x o off=true↔b3w s x o off:=by
 unfold b8t b3w b5v upI
 simp only [Bool.and_eq_true,decide_eq_true_eq]
 constructor
 ·rintro ⟨⟨h1,h2⟩,⟨h3,h4⟩,h5⟩
  refine ⟨h1,h2,?_,?_⟩
  ·split at h3<;>omega
  ·split at h4<;>omega
 ·rintro ⟨h1,h2,h3,h4⟩
  rw [if_neg (show ¬ (9223372036854775807 - o < x.len) by omega),if_neg (show ¬ (9223372036854775807 - off < s.len) by omega),if_neg (by omega)]
  refine ⟨⟨h1,h2⟩,⟨h3,h4⟩,by omega⟩
theorem b6o {s:Sp} {off:Int} (hs:s.len < 2 ^ 60) (hf:0<=off/\off < 2 ^ 62):∀ {ds:List Sp} {os:List Int},okZ (ds.zip os)->a5h s off ds os=none->∀ p∈ds.zip os,¬ b3w s p.1 p.2 off
 | [],_,_,_,p,hp=>by simp at hp
 | _::_,[],_,_,p,hp=>by simp at hp
 | x::xs,o::os,hz,h,p,hp=>by
  have h1:=hz (x,o) (by simp)
  rw [a5h] at h
  split at h
  ·simp at h
  ·rename_i hb
   rw [List.zip_cons_cons] at hp
   rcases List.mem_cons.1 hp with rfl | hp
   ·exact fun hc=>hb ((c4d ⟨h1.1,h1.2.1⟩ h1.2.2 hs hf).2 hc)
   ·exact b6o hs hf (fun q hq=>hz q (by rw [List.zip_cons_cons]; exact List.mem_cons_of_mem _ hq)) h p hp
theorem b6p {s:Sp} {off:Int} (hs:s.len < 2 ^ 60) (hf:0<=off/\off < 2 ^ 62):∀ {ds:List Sp} {os:List Int} {o:Int},okZ (ds.zip os)->a5h s off ds os=some o->∃ p∈ds.zip os,b3w s p.1 p.2 off/\o=(p.2+p.1.len+3) / 4*4
 | [],_,_,_,h=>by simp [a5h] at h
 | _::_,[],_,_,h=>by simp [a5h] at h
 | x::xs,y::os,o,hz,h=>by
  have h1:=hz (x,y) (by simp)
  simp only at h1
  rw [a5h] at h
  split at h
  ·rename_i hb
   have hc:=(c4d ⟨h1.1,h1.2.1⟩ h1.2.2 hs hf).1 hb
   refine ⟨(x,y),by simp,hc,?_⟩
   simp only [Option.some.injEq] at h
   rw [<-h]
   unfold b5v upI
   rw [if_neg (show ¬ (9223372036854775807 - y < x.len) by omega),if_neg (by omega)]
  ·obtain ⟨p,hp,h2⟩:=b6p hs hf (fun q hq=>hz q (by rw [List.zip_cons_cons]; exact List.mem_cons_of_mem _ hq)) h
   exact ⟨p,by rw [List.zip_cons_cons]; exact List.mem_cons_of_mem _ hp,h2⟩
theorem b6q {s:Sp} {ds:List Sp} {os:List Int} (hs:s.len < 2 ^ 60) (hz:okZ (ds.zip os)):∀ {n:Nat} {off:Int},2 ^ 63 - off<=n->0<=off/\off < 2 ^ 62->off % 4=0->(∀ m,0<=m->m < off->m % 4=0->∃ p∈ds.zip os,b3w s p.1 p.2 m)->
  (0<=a49 s ds os n off/\a49 s ds os n off < 2 ^ 62)/\a49 s ds os n off % 4=0/\(∀ p∈ds.zip os,¬ b3w s p.1 p.2 (a49 s ds os n off))/\∀ m,0<=m->m < a49 s ds os n off->m % 4=0->∃ p∈ds.zip os,b3w s p.1 p.2 m
 | 0,off,hn,hf,h4,hb=>by omega
 | n+1,off,hn,hf,h4,hb=>by
  rw [a49]
  split
  ·rename_i e
   exact ⟨hf,h4,b6o hs hf hz e,hb⟩
  ·rename_i o e
   obtain ⟨p,hp,hc,rfl⟩:=b6p hs hf hz e
   have h1:=hz p hp
   obtain ⟨c1,c2,c3,c4⟩:=hc
   refine b6q hs hz (by omega) (by omega) (by omega) (fun m hm hm2 hm4=> ?_)
   by_cases hlt:m < off
   ·exact hb m hm hlt hm4
   ·exact ⟨p,hp,c1,c2,by omega,by omega⟩
theorem d2j {s:Sp} {ds:List Sp} {os:List Int} (hs:s.len < 2 ^ 60) (hz:okZ (ds.zip os)) {v:Int} (hv:0<=v) (h4:v % 4=0) (hfree:∀ p∈ds.zip os,¬ b3w s p.1 p.2 v) (hlow:∀ m,0<=m->m < v->m % 4=0->∃ p∈ds.zip os,b3w s p.1 p.2 m):a49 s ds os c1b 0=v:=by
 obtain ⟨h1,h2,h3,h5⟩:=b6q hs hz (n:=c1b) (off:=0) (by simp [c1b]) (by omega) (by omega) (fun m h1 h2=>by omega)
 rcases Int.lt_trichotomy (a49 s ds os c1b 0) v with h | h | h
 ·obtain ⟨p,hp,hc⟩:=hlow _ h1.1 h h2
  exact absurd hc (h3 p hp)
 ·exact h
 ·obtain ⟨p,hp,hc⟩:=h5 v hv h h4
  exact absurd hc (hfree p hp)
theorem b5n {S:Nat->Sp} {f:Nat->Int}:∀ {n:Nat},((List.range n).map S).zip ((List.range n).map f)=(List.range n).map fun j=>(S j,f j):=by
 intro n
 rw [List.zip_map']
theorem c0s {n:Nat} {S:Nat->Sp} {f:Nat->Int} {M:Int} (hb:∀ j,j < n->1<=(S j).len/\(S j).len < 2 ^ 60/\0<=f j/\f j < 2 ^ 60/\f j % 4=0)
  (hfree:∀ j,j < n->∀ k,k < j->¬ b3w (S j) (S k) (f k) (f j)) (hlow:∀ j,j < n->∀ m,0<=m->m < f j->m % 4=0->∃ k,k < j/\b3w (S j) (S k) (f k) m)
  (hM:∀ j,j < n->f j+(S j).len<=M) (hE:(∃ j,j < n/\f j+(S j).len=M)\/n=0/\M=0) :
  a5n ((List.range n).map S)=((List.range n).map f,M):=by
 have key:∀ d i m,i+d=n->0<=m->m<=M->(m=M\/∃ j,i<=j/\j < n/\f j+(S j).len=M)->c81 c1b ((List.range i).map S) ((List.range i).map f) m (((List.range n).map S).drop i)=((List.range n).map f,M):=by
  intro d
  induction d with
  | zero=>
   intro i m hi hm0 hm hE
   obtain rfl:i=n:=by omega
   rw [List.drop_of_length_le (by simp),c81]
   rcases hE with h | ⟨j,h1,h2,_⟩
   ·rw [h]
   ·omega
  | succ d ih=>
   intro i m hi hm0 hm hE
   have hin:i < n:=by omega
   have hbi:=hb i hin
   have hg:((List.range n).map S).drop i=S i::((List.range n).map S).drop (i+1):=by
    rw [List.drop_eq_getElem_cons (by simpa using hin)]; simp
   have hz:okZ (((List.range i).map S).zip ((List.range i).map f)):=by
    intro p hp
    rw [b5n] at hp
    obtain ⟨j,hj,rfl⟩:=List.mem_map.1 hp
    have:=hb j (by have:=List.mem_range.1 hj; omega)
    exact ⟨this.2.2.1,this.2.2.2.1,this.2.1⟩
   have hlk:a49 (S i) ((List.range i).map S) ((List.range i).map f) c1b 0=f i:=by
    refine d2j hbi.2.1 hz hbi.2.2.1 hbi.2.2.2.2 (fun p hp=> ?_) (fun m h1 h2 h3=> ?_)
    ·rw [b5n] at hp
     obtain ⟨j,hj,rfl⟩:=List.mem_map.1 hp
     exact hfree i hin j (List.mem_range.1 hj)
    ·obtain ⟨k,hk,hc⟩:=hlow i hin m h1 h2 h3
     exact ⟨(S k,f k),by rw [b5n]; exact List.mem_map.2 ⟨k,List.mem_range.2 hk,rfl⟩,hc⟩
   have he:b5v (f i) (S i).len=f i+(S i).len:=by unfold b5v; rw [if_neg (by omega)]
   rw [hg,c81,if_neg (by omega),hlk,he]
   have e1:∀ {α:Type} (F:Nat->α),(List.range i).map F++[F i]=(List.range (i+1)).map F:=by intro α F; rw [List.range_succ,List.map_append]; rfl
   rw [e1,e1]
   have hMi:=hM i hin
   refine ih (i+1) _ (by omega) (by omega) (by omega) ?_
   rcases hE with h | ⟨j,h1,h2,h3⟩
   ·left; omega
   ·rcases Nat.lt_or_ge i j with h | h
    ·exact .inr ⟨j,by omega,h2,h3⟩
    ·obtain rfl:j=i:=by omega
     left; omega
 have:=key n 0 0 (by omega) (by omega) ?_ ?_
 ·simpa [a5n] using this
 ·rcases hE with ⟨j,h1,h2⟩ | ⟨_,h⟩
  ·have:=hb j h1; omega
  ·omega
 ·rcases hE with ⟨j,h1,h2⟩ | ⟨_,h⟩
  ·exact .inr ⟨j,by omega,h1,h2⟩
  ·exact .inl h.symm
def a32 (n:Nat):List Int:=(List.range n).map fun (i:Nat)=>(i:Int)
theorem a3u {n:Nat}:(a32 n).length=n:=by simp [a32]
theorem a44 {n k:Nat} (h:k < (a32 n).length):(a32 n)[k]=k:=by simp [a32]
theorem b5j {n:Nat}:a32 (n+1)=a32 n++[(n:Int)]:=by simp [a32,List.range_succ]
def b0p (n i:Nat):List Bool:=List.replicate i true++List.replicate (n - i) false
theorem b1t {n i k:Nat} (hk:k < n):(b0p n i)[k]! =decide (k < i):=by
 unfold b0p
 by_cases h:k < i
 ·have h2:k < (List.replicate i true++List.replicate (n - i) false).length:=by simp; omega
  rw [a3q h2,List.getElem_append_left (by simpa using h)]
  simp [h]
 ·have h2:k < (List.replicate i true++List.replicate (n - i) false).length:=by simp; omega
  rw [a3q h2,List.getElem_append_right (by simpa using h)]
  simp [h]
theorem c5l {n i:Nat} (h:i < n):(b0p n i).set i true=b0p n (i+1):=by
 unfold b0p
 rw [show n - i=(n - (i+1))+1 by omega,List.set_append_right _ _ (by simp),List.length_replicate,Nat.sub_self,List.replicate_succ,List.set_cons_zero,List.replicate_succ',List.append_assoc]
 rfl
theorem d20 {n i:Nat} (hi:i < n) {ins:List (List Int)} (hn:ins.length=n) (hx:∀ x∈ins[i]!,0<=x/\x < (i:Int)):∀ d k f,k+d=i->(a5t (b0p n i) (ins.drop k) k f).1=i:=by
 intro d
 induction d with
 | zero=>
  intro k f hk
  obtain rfl:k=i:=by omega
  rw [get!_drop (by omega),a5t,b1t hi,if_neg (by simp),if_pos]
  rw [List.all_eq_true]
  intro x hx2
  have:=hx x hx2
  rw [b1t (by omega)]
  simp; omega
 | succ d ih=>
  intro k f hk
  rw [get!_drop (by omega),a5t,b1t (by omega),if_pos (by simp; omega)]
  exact ih (k+1) f (by omega)
theorem c88 {ins:List (List Int)} (hx:∀ i,i < ins.length->∀ x∈ins[i]!,0<=x/\x < (i:Int)):∀ f i,i+f=ins.length->a95 ins f (b0p ins.length i) (a32 i)= .ok (a32 ins.length):=by
 intro f
 induction f with
 | zero=>intro i h; obtain rfl:i=ins.length:=by omega
         rfl
 | succ f ih=>
  intro i h
  have e:=d20 (n:=ins.length) (i:=i) (by omega) rfl (hx i (by omega)) i 0 (-1) (by omega)
  rw [List.drop_zero] at e
  rw [a95,e,if_neg (by omega),Int.toNat_natCast,c5l (by omega),<-b5j]
  exact ih (i+1) (by omega)
theorem c4s {n:Nat}:∀ {rs:List (List Int)} {k:Nat},(∀ r∈rs,∀ x∈r,0<=x/\x < (n:Int))->c6h n rs k=none
 | [],_,_=>rfl
 | r::rs,k,h=>by
  rw [c6h,if_neg,c4s (fun r2 hr2=>h r2 (by simp [hr2]))]
  rw [Bool.not_eq_true,List.any_eq_false]
  intro x hx
  have:=h r (by simp) x hx
  simp [d0c]; omega
theorem c8z {ins:List (List Int)} (hr:∀ r∈ins,r.length < 2 ^ 61) (hx:∀ i,i < ins.length->∀ x∈ins[i]!,0<=x/\x < (i:Int)):a80 ins= .ok (a32 ins.length):=by
 have h1:c3c ins=(a32 ins.length,(0,false,0)):=by
  unfold c3c
  rw [c4s]
  ·have:=c88 hx ins.length 0 (by omega)
   rw [show b0p ins.length 0=List.replicate ins.length false by simp [b0p],show a32 0=[] from rfl] at this
   simp only [this]
  ·intro r hr2 x hx2
   obtain ⟨i,hi,rfl⟩:=List.mem_iff_getElem.1 hr2
   have:=hx i hi x (by rw [a3q hi]; exact hx2)
   omega
 obtain ⟨a,b⟩:=b18 hr
 cases h:a80 ins with
 | error e=>
  obtain ⟨i,g⟩:=e
  have:=(a i g h).1
  rw [h1] at this
  simp at this
 | ok out=>
  have:=b out h
  rw [h1] at this
  simp only [Prod.mk.injEq,and_true] at this
  rw [this]
theorem b6n {ns:List Nd} (hf:∀ n∈ns,n.sh) {m:Nat} (hin:∀ n∈ns,∀ k∈n.ins,0<=k/\k < (m:Int)):∀ {is:List Int} {l:Lk},l.fin->l.descs.length=m->(∀ i∈is,0<=i/\i < (ns.length:Int))->(a2u ns l is).2.isNil=true->
  (a2u ns l is).1.ord=l.ord/\(a2u ns l is).1.descs.length=m/\(∀ d∈(a2u ns l is).1.descs,d.shape.length < 2 ^ 40)/\(a2u ns l is).1.hin.shape.length < 2 ^ 36/\(a2u ns l is).1.ws.length<=8
 | [],l,hl,hm,hi,h=>⟨rfl,hm,hl.descs,hl.hin,hl.ws⟩
 | i::is,l,hl,hm,hi,h=>by
  have hi0:=hi i (by simp)
  have hlt:i.toNat < ns.length:=by omega
  have hmem:=List.getElem_mem hlt
  have hfin:=c0i hl (hf _ hmem)
  have hlen:=c0j hl (hf _ hmem) (fun _ k hk=>by rw [hm]; exact hin _ hmem k hk)
  have hde:=b4m (l:=l) (n:=ns[i.toNat])
  have hnil:∀ e:Er,(atE i e).isNil=true->e.isNil=true:=by
   intro e; cases e<;>simp [atE,Er.isNil]
  rw [a2u,a3q hlt] at h ⊢
  generalize a2q l ns[i.toNat]=r at *
  obtain ⟨⟨d,e⟩,l2⟩:=r
  simp only at h hfin hlen hde ⊢
  cases he:e.isNil with
  | false=>
   rw [he] at h
   simp only [Bool.false_eq_true,if_false] at h
   rw [hnil e h] at he
   cases he
  | true=>
   rw [he] at h
   simp only [if_true] at h ⊢
   have:=b6n hf hin (l:={ l2 with descs:=l2.descs.set i.toNat d }) ⟨fun x hx=>by
    rcases List.mem_or_eq_of_mem_set hx with hx | rfl
    ·exact hfin.descs x hx
    ·exact hlen,hfin.hin,hfin.vals,hfin.ws⟩ (by simp only [List.length_set]; rw [hde.1]; exact hm) (fun k hk=>hi k (by simp [hk])) h
   exact ⟨this.1.trans hde.2,this.2⟩
theorem d36 {g:Gr} (hf:∀ n∈g.nodes,n.sh) (h:(ofR g).2.isNil=true) :
  g.nodes.length<=64/\(0<=g.out/\g.out < (g.nodes.length:Int))/\a80 (g.nodes.map (·.ins))= .ok (ofR g).1.ord/\(∀ x∈(ofR g).1.ord,0<=x/\x < (g.nodes.length:Int))/\(ofR g).1.ord.length=g.nodes.length/\(ofR g).1.descs.length=g.nodes.length/\(∀ d∈(ofR g).1.descs,d.shape.length < 2 ^ 40)/\(ofR g).1.hin.shape.length < 2 ^ 36/\(ofR g).1.ws.length<=8:=by
 unfold ofR at h ⊢
 by_cases c1:64 < g.nodes.length
 ·rw [if_pos c1] at h; simp [Er.isNil] at h
 rw [if_neg c1] at h ⊢
 by_cases c2:g.out < 0\/g.nodes.length<=g.out
 ·rw [if_pos c2] at h; simp [Er.isNil] at h
 rw [if_neg c2] at h ⊢
 have hr:∀ r∈g.nodes.map (·.ins),r.length < 2 ^ 61:=by
  intro r hr
  obtain ⟨n,hn,rfl⟩:=List.mem_map.1 hr
  have:=(hf n hn).ins
  omega
 cases ho:a80 (g.nodes.map (·.ins)) with
 | error e=>rw [ho] at h; simp [Er.isNil] at h
 | ok ord=>
  rw [ho] at h
  simp only at h ⊢
  have hx:=a77 hr ho
  have hl:=c0p hr ho
  simp only [List.length_map] at hx hl
  have:=b6n hf (m:=g.nodes.length) (fun n hn k hk=>hx.2.2.2.2 n.ins (List.mem_map.2 ⟨n,hn,rfl⟩) k hk) (is:=ord) (l:=lk0 ord g.nodes.length) ⟨fun d hd=>by
   simp only [lk0,List.mem_replicate] at hd
   rw [hd.2]; simp [dn],by simp [lk0,dn],by simp [lk0],by simp [lk0]⟩ (by simp [lk0]) hx.2.2.1 h
  obtain ⟨a1,a2,a3,a4,a5⟩:=this
  have e1:(lk0 ord g.nodes.length).ord=ord:=rfl
  rw [e1] at a1
  rw [a1]
  exact ⟨by omega,by omega,rfl,hx.2.2.1,hl,a2,a3,a4,a5⟩
def dTo (D:Nat->Ds) (N i:Nat):List Ds:=(List.range i).map D++List.replicate (N - i) dn
theorem d5d {D:Nat->Ds} {N i k:Nat} (h:k < i):(dTo D N i)[k]! =D k:=by
 unfold dTo
 have h2:k < ((List.range i).map D++List.replicate (N - i) dn).length:=by simp; omega
 rw [a3q h2]
 rw [List.getElem_append_left (by simpa using h)]
 simp
theorem d5e {D:Nat->Ds} {N i:Nat} (h:i < N):(dTo D N i).set i (D i)=dTo D N (i+1):=by
 unfold dTo
 rw [show N - i=(N - (i+1))+1 by omega]
 have:=b46 (os:=(List.range i).map D) (k:=N - (i+1)) (x:=D i) (z:=dn)
 rw [List.length_map,List.length_range] at this
 rw [this,List.range_succ,List.map_append]
 rfl
theorem c2w {ns:List Nd} {N:Nat} (hN:ns.length=N) {D:Nat->Ds} {L:Nat->Lk} (h:∀ i,i < N->a2q { L i with descs:=dTo D N i } ns[i]! =((D i,.nil),{ L (i+1) with descs:=dTo D N i })) :
  ∀ k i,i+k=N->a2u ns { L i with descs:=dTo D N i } ((a32 N).drop i)=({ L N with descs:=dTo D N N }.sn,.nil):=by
 intro k
 induction k with
 | zero=>
  intro i hi
  obtain rfl:i=N:=by omega
  rw [List.drop_of_length_le (by rw [a3u]; exact Nat.le_refl _),a2u]
 | succ k ih=>
  intro i hi
  have hlt:i < (a32 N).length:=by rw [a3u]; omega
  rw [List.drop_eq_getElem_cons hlt,a44,a2u,Int.toNat_natCast,h i (by omega)]
  simp only [Er.isNil,if_true]
  rw [d5e (by omega)]
  exact ih (i+1) (by omega)
theorem c8y {g:Gr} {N:Nat} (hN:g.nodes.length=N) (h64:N<=64) (hout:0<=g.out/\g.out < (N:Int)) (hf:∀ n∈g.nodes,n.ins.length < 2 ^ 61) (hins:∀ i,i < N->∀ x∈(g.nodes[i]!).ins,0<=x/\x < (i:Int)) {D:Nat->Ds} {L:Nat->Lk} (h0:L 0=lk0 (a32 N) N)
  (h:∀ i,i < N->a2q { L i with descs:=dTo D N i } g.nodes[i]! =((D i,.nil),{ L (i+1) with descs:=dTo D N i })) :
  ofR g=({ L N with descs:=(List.range N).map D }.sn,.nil):=by
 have hs:a80 (g.nodes.map (·.ins))= .ok (a32 N):=by
  have:=c8z (ins:=g.nodes.map (·.ins)) (fun r hr=>by
   obtain ⟨n,hn,rfl⟩:=List.mem_map.1 hr
   exact hf n hn) (fun i hi x hx=>by
   rw [List.length_map] at hi
   rw [a3q (by simpa using hi),List.getElem_map] at hx
   exact hins i (by omega) x (by rw [a3q hi]; exact hx))
  rw [this]; simp [hN]
 unfold ofR
 rw [if_neg (by omega),if_neg (by omega),hs,hN]
 simp only
 have:=c2w hN h N 0 (by omega)
 rw [List.drop_zero,h0] at this
 have e0:dTo D N 0=List.replicate N dn:=by simp [dTo]
 have e1:dTo D N N=(List.range N).map D:=by simp [dTo]
 rw [e0,e1] at this
 exact this
theorem c7p {e:Int} (h:1<=e/\e<=256):a04 [e]= .nil:=by
 rw [a4x]; simp [b8w,a54,a6a]; omega
theorem c4m {d:Ds} (h:a04 d.shape= .nil):opR 8 [] [d]=(d,.nil):=by
 simp [opR,a1d,a23,a2d,a67,b6b,chk,h,a16,a1w,Er.isNil]
def inN (args:List Int):Nd:=⟨1,[],args,[],false,[]⟩
def opN (op:Int) (ins args:List Int):Nd:=⟨op,ins,args,[],false,[]⟩
theorem d2n {l:Lk} {op:Int} {ins args:List Int} (h:a1d op=true):a2q l (opN op ins args)=(opR op args (lkD l ins),l):=by
 simp [a2q,opN,h]
def a4n (step elems:Int):Nat->Int->List (Int×Int)
 | 0,_=>[]
 | k+1,a=>if a < elems then (a,if step < elems - a then a+step else elems)::a4n step elems k (if step < elems - a then a+step else elems) else []
def a6q (elems unit:Int):List (Int×Int):=if elems < 1\/unit < 1\/1024 < unit then [] else a4n (1024 / unit) elems elems.toNat 0
theorem b5e {step elems:Int}:∀ {k:Nat} {a:Int},(a4n step elems k a).length<=k
 | 0,a=>Nat.le_refl _
 | k+1,a=>by
  rw [a4n]
  split
  ·simpa using b5e
  ·simp
theorem c6q {u:Int} (h1:1<=u) (h2:u<=1024):1<=1024 / u/\1024 / u*u<=1024/\1024 < (1024 / u+1)*u:=by
 refine ⟨(Int.le_ediv_iff_mul_le (by omega)).2 (by omega),Int.ediv_mul_le _ (by omega),?_⟩
 exact Int.lt_ediv_add_one_mul_self _ (by omega)
theorem c3v {N:Nat}:atI (a32 N) N=a32 N:=by
 have key:∀ d k,k+d=N->d0b k (a32 k++List.replicate (N - k) 0) ((a32 N).drop k)=a32 N:=by
  intro d
  induction d with
  | zero=>
   intro k hk
   obtain rfl:k=N:=by omega
   rw [List.drop_of_length_le (by rw [a3u]; exact Nat.le_refl _),d0b]
   simp
  | succ d ih=>
   intro k hk
   have hlt:k < (a32 N).length:=by rw [a3u]; omega
   have:=b46 (os:=a32 k) (k:=N - (k+1)) (x:=(k:Int)) (z:=(0:Int))
   rw [a3u] at this
   rw [List.drop_eq_getElem_cons hlt,a44,d0b,Int.toNat_natCast,show N - k=(N - (k+1))+1 by omega,this,<-b5j]
   exact ih (k+1) (by omega)
 have:=key N 0 (by omega)
 rw [List.drop_zero] at this
 exact this
theorem upTo_get! {N k:Nat} (h:k < N):(a32 N)[k]! =k:=by
 have h2:k < (a32 N).length:=by rw [a3u]; exact h
 rw [a3q h2,a44]
theorem c92 {N:Nat}:∀ {us:List Int} {t v:Int},(∀ u∈us,0<=u/\u < (N:Int))->t<=v->(∀ u∈us,u<=v)->(v=t\/v∈us)->d0v (a32 N) t us=v
 | [],t,v,_,_,_,h3=>by
  rcases h3 with h | h
  ·rw [h]; rfl
  ·simp at h
 | u::us,t,v,hr,h1,h2,h3=>by
  have hu:=hr u (by simp)
  have hu2:=h2 u (by simp)
  rw [d0v,upTo_get! (by omega)]
  refine c92 (fun x hx=>hr x (by simp [hx])) (by omega) (fun x hx=>h2 x (by simp [hx])) ?_
  rcases h3 with h | h
  ·left; omega
  ·rcases List.mem_cons.1 h with h | h
   ·left; omega
   ·exact .inr h
theorem c9t {t:Nat} {x:Int}:∀ {rs:List (List Int)} {i:Nat},x∈sp t rs i↔∃ m,m < rs.length/\x=((i+m:Nat):Int)/\(t:Int)∈rs[m]!
 | [],i=>by simp [sp]
 | r::rs,i=>by
  rw [sp,List.mem_append,c9t (rs:=rs)]
  constructor
  ·rintro (h | ⟨m,h1,h2,h3⟩)
   ·split at h
    ·rename_i hr
     simp at h
     exact ⟨0,by simp,by simpa using h,by simpa using hr⟩
    ·simp at h
   ·exact ⟨m+1,by simpa using h1,by rw [h2]; congr 1; omega,by simpa using h3⟩
  ·rintro ⟨m,h1,h2,h3⟩
   cases m with
   | zero=>
    left
    rw [if_pos (by simpa using h3)]
    simpa using h2
   | succ m=>exact .inr ⟨m,by simpa using h1,by rw [h2]; congr 1; omega,by simpa using h3⟩
theorem c4x {g:Gr} {ds:List Ds} {a:List Int} {uss:List (List Int)} {N:Nat} (hN:uss.length=N) {F:Nat->Sp} {I:Nat->Sp} (hF:∀ i,i < N->d4f g ds a i uss[i]! =F i) (hI:∀ i,i < N->(if g.nodes[i]!.op=1 then e4u (I i) (F i) else I i)=I (i+1)):c03 g ds a 0 uss [] (I 0)=((List.range N).map F,I N):=by
 have key:∀ d i,i+d=N->c03 g ds a i (uss.drop i) ((List.range i).map F) (I i)=((List.range N).map F,I N):=by
  intro d
  induction d with
  | zero=>
   intro i hi
   obtain rfl:i=N:=by omega
   rw [List.drop_of_length_le (by omega),c03]
  | succ d ih=>
   intro i hi
   rw [get!_drop (by omega),c03,hF i (by omega),hI i (by omega)]
   have e1:(List.range i).map F++[F i]=(List.range (i+1)).map F:=by rw [List.range_succ,List.map_append]; rfl
   rw [e1]
   exact ih (i+1) (by omega)
 have:=key N 0 (by omega)
 rw [List.drop_zero] at this
 exact this
theorem b8e {g:Gr} {out:List Sp} {F:Nat->Sp}:∀ {L:List Nat},(∀ i∈L,g.nodes[i]!.op≠1/\out[i]! =F i)->b1o g out (L.map fun (i:Nat)=>(i:Int))=L.map F
 | [],_=>rfl
 | i::L,h=>by
  have:=h i (by simp)
  rw [List.map_cons,b1o,Int.toNat_natCast,if_neg this.1,this.2,b8e (fun k hk=>h k (by simp [hk]))]
  rfl
theorem b5i {N:Nat}:a32 (N+1)=0::((List.range N).map (· +1)).map fun (i:Nat)=>(i:Int):=by
 unfold a32; rw [List.range_succ_eq_map]; simp
theorem b4y {g:Gr} {inn:Sp} {offs:List Int}:∀ {is:List Int} {out:List Sp} {k:Nat} {b:Bool},(a7l g inn offs out k b is).1.length=out.length
 | [],_,_,_=>rfl
 | i::is,out,k,b=>by
  rw [a7l]
  split<;>rw [b4y,List.length_set]
theorem c87 {g:Gr} {inn:Sp} {offs:List Int}:∀ {is:List Int} {out:List Sp} {k:Nat},(a7l g inn offs out k false is).2=false
 | [],_,_=>rfl
 | i::is,out,k=>by
  rw [a7l]
  split<;>exact c87
theorem c8w {l:Lk} {sh:List Int} (h:a04 sh= .nil) (hl:l.input=false):a2q l (inN (0::sh))=((⟨sh,false⟩,.nil),{ l with input:=true,hin:=⟨sh,false⟩ }):=by
 simp [a2q,inN,a1d,inR,a3m,chk,h,Er.isNil,hl]
def rwS (n:Nat) (sh:List Int):List Nd:=inN (0::sh)::(List.range n).map (fun (i:Nat)=>opN 8 [(i:Int)] [])
def rwG (n:Nat) (sh:List Int):Gr:=⟨rwS n sh,n⟩
theorem a96 {n:Nat} {sh:List Int}:(rwS n sh).length=n+1:=by
 unfold rwS; simp
theorem c9d {n:Nat} {sh:List Int}:(rwS n sh)[0]! =inN (0::sh):=by
 unfold rwS; rfl
theorem c0z {n:Nat} {sh:List Int} {i:Nat} (h:i < n):(rwS n sh)[i+1]! =opN 8 [(i:Int)] []:=by
 have h2:i+1 < (rwS n sh).length:=by rw [a96]; omega
 unfold rwS at h2 ⊢
 rw [a3q h2]
 simp
theorem e8a {n:Nat} {sh:List Int} (hl:sh.length < 2 ^ 30):∀ x∈rwS n sh,x.sh/\x.ins.length<=2:=by
 intro x hx
 unfold rwS at hx
 simp only [List.mem_cons,List.mem_map,List.mem_range] at hx
 rcases hx with rfl | ⟨i,_,rfl⟩
 ·exact ⟨⟨by simp [inN],by simp [inN]; omega,by simp [inN],by simp [inN]⟩,by simp [inN]⟩
 ·exact ⟨⟨by simp [opN],by simp [opN],by simp [opN],by simp [opN]⟩,by simp [opN]⟩
theorem b8d {n i:Nat} (hi:i < n+1):i=0\/(∃ j,i=j+1/\j < n):=by
 rcases Nat.eq_zero_or_pos i with h | h
 ·exact .inl h
 ·exact .inr ⟨i - 1,by omega,by omega⟩
theorem c9f {n:Nat} {sh:List Int} (hn:n<=60) (he:a04 sh= .nil):ofR (rwG n sh)=(⟨a32 (n+1),(List.range (n+1)).map (fun _=>⟨sh,false⟩),⟨sh,false⟩,[]⟩,.nil):=by
 have hlen:=a96 (n:=n) (sh:=sh)
 have hall:∀ i,i < n+1->(rwG n sh).nodes[i]!.ins.length<=2/\∀ x∈(rwG n sh).nodes[i]!.ins,0<=x/\x < (i:Int):=by
  intro i hi
  rcases b8d hi with rfl | ⟨j,rfl,hj⟩
  ·simp only [rwG,c9d,inN]; simp
  ·simp only [rwG,c0z hj,opN]; simp; omega
 refine c8y (g:=rwG n sh) (N:=n+1) (D:=fun _=>⟨sh,false⟩) (L:=fun i=>if i=0 then lk0 (a32 (n+1)) (n+1) else { lk0 (a32 (n+1)) (n+1) with input:=true,hin:=⟨sh,false⟩ }) hlen (by omega) (by simp only [rwG]; omega) (fun nd hnd=> ?_) (fun i hi=>(hall i hi).2) rfl (fun i hi=> ?_) |>.trans ?_
 ·obtain ⟨i,hi,rfl⟩:=List.mem_iff_getElem.1 hnd
  have:=(hall i (by rw [<-hlen]; exact hi)).1
  rw [a3q hi] at this
  omega
 ·rcases b8d hi with rfl | ⟨j,rfl,hj⟩
  ·simp only [rwG,c9d]
   rw [c8w he (by simp [lk0])]
   simp
  ·simp only [rwG,c0z hj]
   rw [d2n rfl]
   have e1:lkD { (if j+1=0 then lk0 (a32 (n+1)) (n+1) else { lk0 (a32 (n+1)) (n+1) with input:=true,hin:=⟨sh,false⟩ }:Lk) with descs:=dTo (fun _=>(⟨sh,false⟩:Ds)) (n+1) (j+1) } [(j:Int)]=[⟨sh,false⟩]:=by
    simp only [lkD,List.map_cons,List.map_nil,Int.toNat_natCast]
    rw [d5d (by omega)]
   rw [e1,c4m he]
   simp
 ·rw [if_neg (by omega)]
  rfl
theorem d4d {n:Nat} {sh:List Int}:(rwG n sh).nodes[0]!.op=1:=by
 show (rwS n sh)[0]!.op=1
 rw [c9d]; rfl
theorem d69 {n:Nat} {sh:List Int}:(rwG n sh).nodes[Int.toNat 0]!.op=1:=d4d
theorem d26 {n:Nat} {sh:List Int} (hn:1<=n/\n<=60) {o:Int} (ho:upI (a18 sh false)=o):a4l (rwG n sh) ⟨a32 (n+1),(List.range (n+1)).map (fun _=>⟨sh,false⟩),⟨sh,false⟩,[]⟩=((List.range (n+1)).map (fun (i:Nat)=>⟨i,i+1,0,o⟩),⟨-1,1,0,o⟩):=by
 have hlen:(rwG n sh).nodes.length=n+1:=a96
 have hout:(rwG n sh).out=(n:Int):=rfl
 unfold a4l
 simp only [hlen,c3v]
 refine (c4x (N:=n+1) (by rw [a7r,hlen]) (F:=fun (i:Nat)=>⟨i,i+1,0,o⟩) (I:=fun i=>if i=0 then ⟨-1,-1,0,4⟩ else ⟨-1,1,0,o⟩) (fun i hi=> ?_) (fun i hi=> ?_)).trans ?_
 ·have hu:=b5k (g:=rwG n sh) (t:=i) (by rw [hlen]; exact hi)
  have hur:=c07 (g:=rwG n sh) _ (show (a7q (rwG n sh))[i]! ∈a7q (rwG n sh) by
   rw [a3q (by rw [a7r,hlen]; exact hi)]; exact List.getElem_mem _)
  rw [hlen] at hur
  have hm:∀ x,x∈(a7q (rwG n sh))[i]! ↔∃ m,m < n+1/\x=(m:Int)/\(i:Int)∈(rwG n sh).nodes[m]!.ins:=by
   intro x
   rw [hu,c9t]
   simp only [List.length_map,hlen,Nat.zero_add]
   constructor
   ·rintro ⟨m,h1,h2,h3⟩
    refine ⟨m,h1,h2,?_⟩
    rw [a3q (by simpa [hlen] using h1),List.getElem_map] at h3
    rw [a3q (by rw [hlen]; exact h1)]
    exact h3
   ·rintro ⟨m,h1,h2,h3⟩
    refine ⟨m,h1,h2,?_⟩
    rw [a3q (by rw [hlen]; exact h1)] at h3
    rw [a3q (by simpa [hlen] using h1),List.getElem_map]
    exact h3
  generalize (a7q (rwG n sh))[i]! =us at hm hur
  unfold d4f
  rw [upTo_get! hi]
  have hds:((List.range (n+1)).map (fun _=>(⟨sh,false⟩:Ds)))[i]! =⟨sh,false⟩:=by
   rw [a3q (by simpa using hi)]; simp
  rw [hds]
  simp only
  rw [ho]
  congr 1
  by_cases h1:i=n
  ·subst h1
   rw [if_pos (by rw [hout])]; rw [hlen]; omega
  ·rw [if_neg (by rw [hout]; omega)]
   have hle:∀ u∈us,u<=(i:Int)+1:=by
    intro u hu2
    obtain ⟨m,h2,rfl,h4⟩:=(hm u).1 hu2
    rcases b8d h2 with rfl | ⟨j,rfl,hj⟩
    ·simp only [rwG,c9d,inN] at h4; simp at h4
    ·simp only [rwG,c0z hj,opN] at h4
     simp at h4
     omega
   refine c92 hur.2 (by omega) hle (.inr ?_)
   rw [hm]
   refine ⟨i+1,by omega,by simp,?_⟩
   simp only [rwG,c0z (show i < n by omega),opN]; simp
 ·rcases b8d hi with rfl | ⟨j,rfl,hj⟩
  ·rw [if_pos d4d,if_pos rfl,if_neg (by omega)]
   simp only [e4u]
   rfl
  ·simp only [rwG,c0z hj,opN]
   rw [if_neg (by omega),if_neg (by omega),if_neg (by omega)]
 ·rw [if_neg (by omega)]
def wT (o:Int) (j:Nat):Sp:=⟨if j=0 then -1 else j,j+1,0,o⟩
def wF (o:Int) (j:Nat):Int:=if j % 2=0 then 0 else o
theorem d25 {n:Nat} {o:Int} (hn:1<=n) (ho:1<=o/\o<=100000/\o % 4=0):a5n ((List.range (n+1)).map (wT o))=((List.range (n+1)).map (wF o),2*o):=by
 have hlen:∀ j,(wT o j).len=o:=fun j=>rfl
 have ha:∀ j,(wT o j).a=if j=0 then -1 else (j:Int):=fun j=>rfl
 have hb:∀ j,(wT o j).b=(j:Int)+1:=fun j=>rfl
 refine c0s (fun j hj=>⟨by rw [hlen]; omega,by rw [hlen]; omega,?_,?_,?_⟩) (fun j hj l hl hc=> ?_) (fun j hj m hm0 hm hm4=> ?_) (fun j hj=> ?_) (.inl ⟨1,by omega,by rw [hlen]; unfold wF; simp; omega⟩)
 ·unfold wF; split<;>omega
 ·unfold wF; split<;>omega
 ·unfold wF; split<;>omega
 ·obtain ⟨c1,c2,c3,c4⟩:=hc
  rw [hlen] at c3 c4
  rw [ha,ha,hb,hb] at c2
  unfold wF at c3 c4
  split at c2<;>split at c2<;>split at c3<;>split at c3<;>omega
 ·unfold wF at hm
  split at hm
  ·omega
  ·refine ⟨j - 1,by omega,by rw [hlen]; omega,?_,?_,?_⟩
   ·rw [ha,ha,hb,hb]
    split<;>split<;>omega
   ·rw [hlen]; unfold wF; split<;>omega
   ·rw [hlen]; unfold wF; split<;>omega
 ·rw [hlen]; unfold wF
  split<;>omega
theorem c9e {n:Nat} {sh:List Int} (hn:1<=n/\n<=60) (he:a04 sh= .nil) {o:Int} (hoo:upI (a18 sh false)=o) (ho:1<=o/\o<=30000/\o % 4=0):∃ l:List Sp,a8f (rwG n sh)=((l,2*o),.nil)/\l.length=n+1:=by
 have hor:=c9f (n:=n) (sh:=sh) (by omega) he
 have hsp:=d26 (n:=n) (sh:=sh) hn hoo
 have hlen:(rwS n sh).length=n+1:=a96
 have hpl:=d25 (n:=n) (o:=o) (by omega) (by omega)
 have hops:∀ i∈(List.range n).map (· +1),(rwG n sh).nodes[i]!.op≠1/\((List.range (n+1)).map (fun (i:Nat)=>(⟨i,i+1,0,o⟩:Sp)))[i]! =⟨i,i+1,0,o⟩:=by
  intro i hi
  simp only [List.mem_map,List.mem_range] at hi
  obtain ⟨j,hj,rfl⟩:=hi
  refine ⟨?_,?_⟩
  ·simp only [rwG,c0z hj,opN]; omega
  ·rw [a3q (by simp; omega)]; simp
 have hsel:b1o (rwG n sh) ((List.range (n+1)).map (fun (i:Nat)=>(⟨i,i+1,0,o⟩:Sp))) (a32 (n+1))=((List.range n).map (· +1)).map (fun (i:Nat)=>(⟨i,i+1,0,o⟩:Sp)):=by
  rw [b5i,b1o,if_pos d69,b8e hops]
 have hall:(⟨-1,1,0,o⟩:Sp)::((List.range n).map (· +1)).map (fun (i:Nat)=>(⟨i,i+1,0,o⟩:Sp))=(List.range (n+1)).map (wT o):=by
  rw [List.range_succ_eq_map]
  simp [wT]
 refine ⟨e0k (rwG n sh) ((List.range (n+1)).map (fun (i:Nat)=>(⟨i,i+1,0,o⟩:Sp))) ⟨-1,1,0,o⟩ ((List.range (n+1)).map (wF o)) (a32 (n+1)),?_,?_⟩
 ·unfold a8f c4k
  rw [hor]
  simp only [Er.isNil,if_true]
  rw [hsp]
  simp only
  rw [hsel,hall,hpl]
  simp only
  rw [if_neg (by omega)]
 ·unfold e0k
  rw [b5i,a7l,if_pos d69,c87]
  simp only [Bool.false_eq_true,if_false,b4y,List.length_set,List.length_map,List.length_range]
def a2t (ds:List Ds) (ks:List Int):List Ds:=ks.map fun k=>ds[k.toNat]!
def a4g (g:Gr) (s:Sn) (i:Int):Int×Int:=
 (a11 s.descs[i.toNat]!.shape,if a1d g.nodes[i.toNat]!.op=true then (b8o g.nodes[i.toNat]!.op g.nodes[i.toNat]!.args (a2t s.descs g.nodes[i.toNat]!.ins)).1 else 1)
def b24 (g:Gr) (s:Sn):List Int->Option Int
 | []=>none
 | i::is=>if 1024 < (a4g g s i).2 then some i else b24 g s is
def a5j (view ks:List Int):List Int:=ks.map fun k=>view[k.toNat]!
def a39 (cs:List Tn) (n:Nd) (view:List Int):In×List Tn:=
 if a1d n.op=true then (⟨n.op,0,a5j view n.ins,n.args,0,0⟩,cs)
 else if n.op=2 then (⟨n.op,0,[],[cs.length],0,0⟩,cs++[⟨n.shape,n.wide,n.data⟩])
 else if n.op=3 then (⟨n.op,0,[],n.args.take 1,0,0⟩,cs)
 else (⟨n.op,0,[],n.args,0,0⟩,cs)
def a9a (x:In):List In->List (Int×Int)->Option (List In)
 | code,[]=>some code
 | code,t::ts=>if 2048 < code.length+1 then none else a9a x (code++[{ x with frm:=t.1,to:=t.2 }]) ts
def a7b (g:Gr) (s:Sn) (sp:List Sp):Pl->List Int->List Int->Option (Pl×List Int)
 | p,view,[]=>some (p,view)
 | p,view,i::is=>
  if g.nodes[i.toNat]!.op=1 then a7b g s sp p view is
  else
   match a9a { (a39 p.consts g.nodes[i.toNat]! (view.set i.toNat p.views.length)).1 with dst:=p.views.length } p.code (a6q (a4g g s i).1 (a4g g s i).2) with
   | none=>none
   | some code=>a7b g s sp { p with views:=p.views++[⟨sp[i.toNat]!.off,s.descs[i.toNat]!.shape,s.descs[i.toNat]!.wide⟩],consts:=(a39 p.consts g.nodes[i.toNat]! (view.set i.toNat p.views.length)).2,code:=code } (view.set i.toNat p.views.length) is
def a92 (sp:List Sp):List Nd->Nat->Sp
 | [],_=>sp[sp.length - 1]!
 | n::ns,i=>if n.op=1 then sp[i]! else a92 sp ns (i+1)
def pl0:Pl:=⟨0,[],[],[],[],0,0⟩
def b26:In:=⟨24,0,[],[],0,0⟩
def b9z (out:Int):Option (Pl×List Int)->Pl×Er
 | none=>(pl0,.s 2)
 | some r=>if 2048 < r.1.code.length+1 then (pl0,.s 2) else ({ r.1 with code:=r.1.code++[b26],output:=r.2[out.toNat]! },.nil)
def d16 (g:Gr) (s:Sn) (sp:List Sp) (size:Int):Pl×Er:=
 match b24 g s s.ord with
 | some i=>(pl0,.at i (.s 9))
 | none=>b9z g.out (a7b g s sp ⟨size,[⟨(a92 sp g.nodes 0).off,s.hin.shape,s.hin.wide⟩],[],s.ws,[],0,0⟩ (List.replicate g.nodes.length 0) s.ord)
def d0e (g:Gr):Pl×Er:=
 if (ofR g).2.isNil=true then (if (a8f g).2.isNil=true then d16 g (ofR g).1 (a8f g).1.1 (a8f g).1.2 else (pl0,(a8f g).2)) else (pl0,(ofR g).2)
theorem a9f {x:In}:∀ {ts:List (Int×Int)} {code:List In},code.length+ts.length<=2048->a9a x code ts=some (code++ts.map fun t=>{ x with frm:=t.1,to:=t.2 })
 | [],code,_=>by simp [a9a]
 | t::ts,code,h=>by
  simp only [List.length_cons] at h
  rw [a9a,if_neg (by omega),a9f (by simp; omega)]
  simp
end Go.Ideal.Tryd
end
section
namespace Go.Ideal.Tryd
attribute [local go_sem] eD
structure SentG (G:GG) (bk:Nat->Nat×Nat):Prop where
 val:∀ g,g=0\/g=1\/g=2\/g=3\/g=4\/g=5\/g=6\/g=7->G g=some (.iface c48 (.pointer (some ⟨(bk (cn g)).1,(bk (cn g)).2,none⟩)))
theorem SentG.o {G:GG} {bk:Nat->Nat×Nat} (h:SentG G bk):SentO G bk:=⟨fun g hg=>h.val g (by omega)⟩
theorem Sent.g {G:GG} {bk:Nat->Nat×Nat} (h:Sent G bk):SentG G bk:=⟨fun g hg=>h.val g (by omega)⟩
section
variable {G:GG} {bk:Nat->Nat×Nat} {Q:Exit->St->Prop} {st:St}
@[simp] theorem c19 {ds:List Ds} {ks:List Int}:(a2t ds ks).length=ks.length:=by simp [a2t]
@[go_sem] theorem g46 {xs:List Ds} {i:Nat} (h:i < xs.length):(fm eD xs)[i*2]? =some (slI xs[i].shape):=b0y (f:=eD) (k:=2) (j:=0) (fun _=>rfl) h (by omega)
theorem d2y {s:Sn} {n:Nd} {E:AV} (hi:∀ k∈n.ins,0<=k/\k < (s.descs.length:Int)) (hl:n.ins.length < 2 ^ 36)
  (h:st.s 4= .var (eSn s)/\st.s 8= .var (a4p n)/\st.s 9=E/\st.s 10= .own 2 0 []/\st.s 33=slI n.ins/\st.s 34=li n.ins.length/\st.s 35=li 0)
  (hex:∀ s':St,s'.s 4= .var (eSn s)/\s'.s 8= .var (a4p n)/\s'.s 9=E/\s'.s 10= .own 2 n.ins.length (fm eD (a2t s.descs n.ins))->Q (.exit 0) s'):AW pg G 59 (.loop a6h) Q st:=by
 refine a0x Nat (fun j st=>j<=n.ins.length/\st.s 4= .var (eSn s)/\st.s 8= .var (a4p n)/\st.s 9=E/\st.s 10= .own 2 j (fm eD (a2t s.descs (n.ins.take j)))/\st.s 33=slI n.ins/\st.s 34=li n.ins.length/\st.s 35=li j) (fun j=>n.ins.length - j) 0 ⟨by omega,by simpa [fm,a2t] using h⟩ ?_
 clear h
 rintro j st K ⟨hj,h⟩ hK
 by_cases c:j < n.ins.length
 ·have hk:=hi _ (List.getElem_mem c)
  obtain ⟨kk,hkk⟩:∃ kk:Nat,n.ins[j]=kk:=⟨n.ins[j].toNat,by omega⟩
  rw [hkk] at hk
  have hk2:kk < s.descs.length:=by omega
  simp only [eSn] at h
  have ht:(fm eD (a2t s.descs (n.ins.take j))).take (j*2)=fm eD (a2t s.descs (n.ins.take j)):=b3g (fun _=>rfl) (by simp; omega)
  simp (disch:=omega) [go_sem,a6h,h,c,hkk,hk2]
  have e:s.descs[((kk:Int)).toNat]! =s.descs[kk]:=by simp [hk2]
  refine hK (j+1) _ ⟨by omega,?_⟩ (by omega)
  have e2:a2t s.descs (n.ins.take (j+1))=a2t s.descs (n.ins.take j)++[s.descs[kk]]:=by
   rw [List.take_succ_eq_append_getElem c,a2t,List.map_append,List.map_cons,List.map_nil,hkk,e]; rfl
  rw [e2,a5k,a5l]
  simp (disch:=omega) [go_sem,h,eSn,ht]
 ·have:j=n.ins.length:=by omega
  subst this
  simp (disch:=omega) [go_sem,a6h,h]
  refine hex _ ?_
  rw [List.take_length] at h
  simp (disch:=omega) [go_sem,h]
theorem c86 (hS:SentO G bk) (g:Gr) (s:Sn) (i:Nat) (hi:i < g.nodes.length) (hd:i < s.descs.length) (hn:g.nodes[i].sh) (hins:∀ k∈g.nodes[i].ins,0<=k/\k < (s.descs.length:Int)) (hds:∀ d∈s.descs,d.shape.length < 2 ^ 40) :
  ACalls pg G c1h [d3z g,.agg (eSn s),li i] (.tup [li (a4g g s i).1,li (a4g g s i).2]):=by
 have hn1:=hn.ins
 have hn2:=hn.args
 have hdl:=hds _ (List.getElem_mem hd)
 have hp:a4g g s i=(a11 s.descs[i].shape,if a1d g.nodes[i].op=true then (b8o g.nodes[i].op g.nodes[i].args (a2t s.descs g.nodes[i].ins)).1 else 1):=by
  rw [a4g,Int.toNat_natCast,a3q hi,a3q hd]
 rw [hp]
 clear hp
 refine b5t rfl ?_
 simp (disch:=omega) [go_sem,b3x,eSn,hi,hd]
 refine a0i (b0r hS.three s.descs[i].shape (by omega)) rfl rfl ?_
 simp (disch:=omega) [go_sem]
 refine a0i (b39 g.nodes[i].op) rfl rfl ?_
 cases hk:a1d g.nodes[i].op with
 | false=>simp (disch:=omega) [go_sem,hk]
 | true=>
  simp (disch:=omega) [go_sem,hk]
  refine d2y (s:=s) (n:=g.nodes[i]) (E:=li (a11 s.descs[i].shape)) hins hn1 (by simp (disch:=omega) [go_sem,a4p,eSn]) (fun s1 h=> ?_)
  simp only [a4p] at h
  simp (disch:=omega) [go_sem,h]
  have spec:=e67 hS g.nodes[i].op g.nodes[i].args (a2t s.descs g.nodes[i].ins) (by
   intro d hd
   simp only [a2t,List.mem_map] at hd
   obtain ⟨k,hk2,rfl⟩:=hd
   obtain ⟨h1,h2⟩:=hins k hk2
   have hlt:k.toNat < s.descs.length:=by omega
   rw [a3q hlt]
   exact hds _ (List.getElem_mem hlt)) (by simp; omega) (by omega)
  simp only [slD,c19] at spec
  have ht:(fm eD (a2t s.descs g.nodes[i].ins)).take (g.nodes[i].ins.length*2)=fm eD (a2t s.descs g.nodes[i].ins):=b3g (fun _=>rfl) (by simp)
  simp (disch:=omega) [go_sem,ht]
  refine a7t spec (by simp [go_sem,noRef]) ?_ ?_<;>
  simp (disch:=omega) [go_sem,h,hk]
theorem d2d {g:Gr} {sp:List Sp} (hl:g.nodes.length < 2 ^ 40) (hsp:g.nodes.length<=sp.length)
  (h:st.s 1=slS sp/\st.s 2= .var [slN g.nodes,li g.out]/\st.s 4= .var [li 0,li 0,li 0,li 0]/\st.s 8=slN g.nodes/\st.s 9=li g.nodes.length/\st.s 10=li 0)
  (hret:∀ x,a92 sp g.nodes 0=x->∀ s':St,s'.s 4= .var (eS x)->Q .ret s')
  (hex:a92 sp g.nodes 0=sp[sp.length - 1]! ->∀ s':St,s'.s 1=slS sp/\s'.s 4= .var [li 0,li 0,li 0,li 0]->Q (.exit 0) s'):AW pg G 29 (.loop a48) Q st:=by
 refine a0x Nat (fun j st=>j<=g.nodes.length/\a92 sp (g.nodes.drop j) j=a92 sp g.nodes 0/\st.s 1=slS sp/\st.s 2= .var [slN g.nodes,li g.out]/\st.s 4= .var [li 0,li 0,li 0,li 0]/\st.s 8=slN g.nodes/\st.s 9=li g.nodes.length/\st.s 10=li j) (fun j=>g.nodes.length - j) 0 ⟨by omega,by simp,by simpa using h⟩ ?_
 clear h
 rintro j st K ⟨hj,hm,h⟩ hK
 by_cases c:j < g.nodes.length
 ·have c2:j < sp.length:=by omega
  rw [List.drop_eq_getElem_cons c,a92,a3q c2] at hm
  by_cases ho:g.nodes[j].op=1
  ·rw [if_pos ho] at hm
   simp (disch:=omega) [go_sem,a48,h,c,c2,ho]
   exact hret _ hm.symm _ (by simp (disch:=omega) [go_sem,h,eS])
  ·rw [if_neg ho] at hm
   simp (disch:=omega) [go_sem,a48,h,c,c2,ho]
   exact hK (j+1) _ ⟨by omega,hm,by simp (disch:=omega) [go_sem,h]⟩ (by omega)
 ·have:j=g.nodes.length:=by omega
  subst this
  rw [List.drop_length,a92] at hm
  simp (disch:=omega) [go_sem,a48,h]
  exact hex hm.symm _ (by simp (disch:=omega) [go_sem,h])
theorem d53 (g:Gr) (sp:List Sp) (hl:g.nodes.length < 2 ^ 40) (hsp:g.nodes.length<=sp.length) (hs2:sp.length < 2 ^ 40) (h0:0 < sp.length):ACalls pg G c1j [d3z g,slS sp] (.agg (eS (a92 sp g.nodes 0))):=by
 refine b5x rfl ?_
 simp (disch:=omega) [go_sem,b35]
 refine d2d (g:=g) (sp:=sp) hl hsp (by simp (disch:=omega) [go_sem]) (fun x hx s h=> ?_) (fun hx s h=> ?_)
 ·subst hx
  simp (disch:=omega) [go_sem,h,eS]
 ·have h1:sp.length - 1 < sp.length:=by omega
  rw [hx,a3q h1]
  have e1:((sp.length:Int) - 1)=((sp.length - 1:Nat):Int):=by omega
  simp (disch:=omega) [go_sem,h,e1,h1,eS]
end
end Go.Ideal.Tryd
end
section
namespace Go.Ideal.Tryd
theorem a5v {laid:List (String×DataW Unit)} {hs:List (Nat×Value)} {W:World} (h:laidMet pg laid W) (hc:b45 [0,1,2,3,4,5,6,7] laid=true) (hhs:∀ p∈hs,p.1 < W.heap.size/\∃ cur T fz,W.heap[p.1]? =some (.cells cur T fz)/\cur[0]? =some p.2):∃ (G:GG) (bk:Nat->Nat×Nat),G.hs=hs/\SentG G bk/\∀ g v,G.at g v->GC G W g v/\g < W.heap.size:=by
 have key:∀ g,g=0\/g=1\/g=2\/g=3\/g=4\/g=5\/g=6\/g=7->g∈([0,1,2,3,4,5,6,7]:List Nat):=fun g hg=>by simp; omega
 obtain ⟨G,bk,h0,⟨h1,h2,h3⟩,h4⟩:=b8g (L:=[0,1,2,3,4,5,6,7]) (hs:=hs) (by decide) h hc hhs
 refine ⟨G,fun c=>bk (gn c),h0,⟨fun g hg=> ?_⟩,h4⟩
 simp only [f6p g (List.all_eq_true.1 (show ([0,1,2,3,4,5,6,7]:List Nat).all (fun g=>decide (g∈d27))=true by decide) g (key g hg) |> of_decide_eq_true)]
 exact h1 g (key g hg)
def gP (p:Pl):List AV:=[li p.size,owV p.views,owT p.consts,owD p.weights,.own 6 p.code.length (fm eI p.code),li p.input,li p.output]
section
variable {G:GG} {bk:Nat->Nat×Nat} {Q:Exit->St->Prop} {st:St}
@[simp] theorem d7s {v ks:List Int}:(a5j v ks).length=ks.length:=by simp [a5j]
theorem c8c {p:Pl} {n:Nd} {view:List Int} (hi:∀ k∈n.ins,0<=k/\k < (view.length:Int)) (hl:n.ins.length < 2 ^ 36)
  (h:st.s 0= .var (gP p)/\st.s 2=owI view/\st.s 4= .var (a4p n)/\st.s 6= .var [li 0,li 0,.own 1 0 [],.own 1 0 [],li 0,li 0]/\st.s 7= .var [li n.op,li 0,.own 1 0 [],slI n.args,li 0,li 0]/\st.s 20=slI n.ins/\st.s 21=li n.ins.length/\st.s 22=li 0)
  (hex:∀ s':St,s'.s 0= .var (gP p)/\s'.s 2=owI view/\s'.s 4= .var (a4p n)/\s'.s 6= .var [li 0,li 0,.own 1 0 [],.own 1 0 [],li 0,li 0]/\s'.s 7= .var [li n.op,li 0,owI (a5j view n.ins),slI n.args,li 0,li 0]->Q (.exit 1) s'):AW pg G 68 (.loop a6j) Q st:=by
 refine a0x Nat (fun j st=>j<=n.ins.length/\st.s 0= .var (gP p)/\st.s 2=owI view/\st.s 4= .var (a4p n)/\st.s 6= .var [li 0,li 0,.own 1 0 [],.own 1 0 [],li 0,li 0]/\st.s 7= .var [li n.op,li 0,owI (a5j view (n.ins.take j)),slI n.args,li 0,li 0]/\st.s 20=slI n.ins/\st.s 21=li n.ins.length/\st.s 22=li j) (fun j=>n.ins.length - j) 0 ⟨by omega,by simpa [a5j,owI] using h⟩ ?_
 clear h
 rintro j st K ⟨hj,h⟩ hK
 by_cases c:j < n.ins.length
 ·have hk:=hi _ (List.getElem_mem c)
  obtain ⟨kk,hkk⟩:∃ kk:Nat,n.ins[j]=kk:=⟨n.ins[j].toNat,by omega⟩
  rw [hkk] at hk
  have hk2:kk < view.length:=by omega
  have e:view[((kk:Int)).toNat]! =view[kk]:=by simp [hk2]
  have e2:a5j view (n.ins.take (j+1))=a5j view (n.ins.take j)++[view[kk]]:=by
   rw [List.take_succ_eq_append_getElem c,a5j,List.map_append,List.map_cons,List.map_nil,hkk,e]; rfl
  have hlv:(a5j view (n.ins.take j)).length=j:=by simp; omega
  generalize hv:a5j view (n.ins.take j)=vs at *
  simp only [gP] at h
  simp (disch:=omega) [go_sem,a6j,h,c,hkk,hk2]
  refine a0b ?_
  simp (disch:=omega) [go_sem,h,hkk,hk2]
  refine a0c (by decide) fun s3 hs3 hep3=> ?_
  simp (disch:=omega) [go_sem,hs3,hep3,h,hkk,hk2]
  refine hK (j+1) _ ⟨by omega,?_⟩ (by omega)
  rw [e2]
  simp (disch:=omega) [go_sem,hs3,hep3,h,hkk,hk2,gP]
 ·have:j=n.ins.length:=by omega
  subst this
  rw [List.take_length] at h
  simp (disch:=omega) [go_sem,a6j,h]
  exact hex _ (by simp (disch:=omega) [go_sem,h])
theorem d54 (p:Pl) (n:Nd) (view:List Int) (hn:n.sh) (hi:∀ k∈n.ins,0<=k/\k < (view.length:Int)) (hw:n.op=3->0 < n.args.length) (hc:p.consts.length < 2 ^ 36) :
  ACallsX pg G c1k [.var (gP p),.agg (a4p n),owI view] (.agg (eI (a39 p.consts n view).1)) [(0,.var (gP { p with consts:=(a39 p.consts n view).2 })),(2,owI view)]:=by
 have hn1:=hn.ins
 have hn2:=hn.args
 have hn3:=hn.shape
 have hn4:=hn.data
 refine b37 (pins:=[0,2]) (by kernel_rfl) rfl rfl (by simp [go_sem]) rfl ?_
 simp (disch:=omega) [go_sem,b36,a4p]
 refine a0i (b39 n.op) rfl rfl ?_
 cases hk:a1d n.op with
 | true=>
  simp (disch:=omega) [go_sem,hk]
  refine c8c (p:=p) (n:=n) (view:=view) hi hn1 (by simp (disch:=omega) [go_sem,a4p]) (fun s h=> ?_)
  simp only [gP] at h
  simp (disch:=omega) [go_sem,h,a39,hk,gP,eI]
 | false=>
  simp (disch:=omega) [go_sem,hk]
  by_cases h2:n.op=2
  ·have spec:=d06 (G:=G) n.shape n.wide n.data (by omega) (by omega)
   simp (disch:=omega) [go_sem,h2,gP]
   refine b0m [(0,0),(7,1)] (by simp) (by simp (disch:=omega) [go_sem]) ?_
   simp (disch:=omega) [go_sem]
   refine a0w spec rfl (by simp [a0y,a0z,a1i]) (by simp) [54,53] (by simp) (by simp (disch:=omega) [go_sem]) ?_
   simp (disch:=omega) [go_sem]
   refine a0c (by decide) fun s2 hs2 hep=> ?_
   simp (disch:=omega) [go_sem,hs2,hep,a39,hk,h2,gP,eI,a5k,a5l,oT,show a1d 2=false from rfl]
  ·by_cases h3:n.op=3
   ·have:=hw h3
    simp (disch:=omega) [go_sem,h2,h3]
    simp (disch:=omega) [go_sem,a39,hk,h2,h3,gP,eI,show a1d 3=false from rfl]
   ·simp (disch:=omega) [go_sem,h2,h3]
    simp (disch:=omega) [go_sem,a39,hk,h2,h3,gP,eI]
end
end Go.Ideal.Tryd
end
section
namespace Go.Ideal.Tryd
attribute [local go_sem] eD
abbrev zP:AV:= .var [li 0,.own 3 0 [],.own 3 0 [],.own 2 0 [],.own 6 0 [],li 0,li 0]
section
variable {G:GG} {bk:Nat->Nat×Nat} {Q:Exit->St->Prop} {st:St}
theorem e4j (hS:SentG G bk) {g:Gr} {s:Sn} {sp:List Sp} {size:Int} (hn:∀ n∈g.nodes,n.sh) (hins:∀ n∈g.nodes,∀ k∈n.ins,0<=k/\k < (g.nodes.length:Int)) (hl:g.nodes.length<=64)
  (hdl:s.descs.length=g.nodes.length) (hds:∀ d∈s.descs,d.shape.length < 2 ^ 40) (hord:∀ x∈s.ord,0<=x/\x < (g.nodes.length:Int)) (hol:s.ord.length < 2 ^ 36)
  (h:st.s 1= .var [slN g.nodes,li g.out]/\st.s 2=zP/\st.s 3= .lit .nilIface/\st.s 4= .var (eSn s)/\st.s 6=owS sp/\st.s 7=li size/\st.s 43=slI s.ord/\st.s 44=li s.ord.length/\st.s 45=li 0)
  (hret:∀ i,b24 g s s.ord=some i->∀ s':St,s'.s 2= .var (eP pl0)/\s'.s 3=a0r bk (.at i (.s 9))->Q .ret s')
  (hex:b24 g s s.ord=none->∀ s':St,s'.s 1= .var [slN g.nodes,li g.out]/\s'.s 2=zP/\s'.s 3= .lit .nilIface/\s'.s 4= .var (eSn s)/\s'.s 6=owS sp/\s'.s 7=li size->Q (.exit 0) s'):AW pg G 201 (.loop b00) Q st:=by
 have h9:=hS.val 2 (by decide)
 refine a0x Nat (fun j st=>j<=s.ord.length/\b24 g s (s.ord.drop j)=b24 g s s.ord/\st.s 1= .var [slN g.nodes,li g.out]/\st.s 2=zP/\st.s 3= .lit .nilIface/\st.s 4= .var (eSn s)/\st.s 6=owS sp/\st.s 7=li size/\st.s 43=slI s.ord/\st.s 44=li s.ord.length/\st.s 45=li j) (fun j=>s.ord.length - j) 0 ⟨by omega,by simp,by simpa using h⟩ ?_
 clear h
 rintro j st K1 ⟨hj,hm,h⟩ hK
 by_cases c:j < s.ord.length
 ·have hx:=hord _ (List.getElem_mem c)
  obtain ⟨i,hi⟩:∃ i:Nat,s.ord[j]=i:=⟨s.ord[j].toNat,by omega⟩
  rw [hi] at hx
  have c1:i < g.nodes.length:=by omega
  have hmem:=List.getElem_mem c1
  have spec:=c86 (G:=G) hS.o g s i c1 (by omega) (hn _ hmem) (fun k hk=>by rw [hdl]; exact hins _ hmem k hk) hds
  rw [List.drop_eq_getElem_cons c,b24,hi] at hm
  generalize a4g g s (i:Int)=pr at *
  obtain ⟨el,un⟩:=pr
  simp only at hm spec
  simp only [eSn] at spec
  simp (disch:=omega) [go_sem,b00,h,c,hi,eSn]
  refine a0i spec rfl rfl ?_
  by_cases hu:1024 < un
  ·rw [if_pos hu] at hm
   simp (disch:=omega) [go_sem,h,hu,eSn]
   refine a0b ?_
   simp (disch:=omega) [go_sem,h,h9]
   refine a0c (by decide) fun s2 hs2 hep=> ?_
   simp (disch:=omega) [go_sem,hs2,h]
   exact hret i hm.symm _ (by simp (disch:=omega) [go_sem,hs2,h,a0r,eP,pl0,a24])
  ·rw [if_neg hu] at hm
   simp (disch:=omega) [go_sem,h,hu,eSn]
   exact hK (j+1) _ ⟨by omega,hm,by simp (disch:=omega) [go_sem,h,eSn]⟩ (by omega)
 ·have:j=s.ord.length:=by omega
  subst this
  rw [List.drop_length,b24] at hm
  simp (disch:=omega) [go_sem,b00,h]
  exact hex hm.symm _ (by simp (disch:=omega) [go_sem,h])
theorem e4k {g:Gr} {s:Sn} {sp:List Sp} {size:Int} {p:Pl} (hw:s.ws.length < 2 ^ 30) (hws:∀ d∈s.ws,d.shape.length < 2 ^ 40) (hp:p.weights=[])
  (h:st.s 1= .var [slN g.nodes,li g.out]/\st.s 2=zP/\st.s 3= .lit .nilIface/\st.s 4= .var (eSn s)/\st.s 6=owS sp/\st.s 7=li size/\st.s 12= .var (gP p)/\st.s 77=slD s.ws/\st.s 78=li s.ws.length/\st.s 79=li 0)
  (hex:∀ s':St,(s'.s 1= .var [slN g.nodes,li g.out]/\s'.s 2=zP/\s'.s 3= .lit .nilIface/\s'.s 4= .var (eSn s)/\s'.s 6=owS sp/\s'.s 7=li size/\s'.s 12= .var (gP { p with weights:=s.ws }))->Q (.exit 2) s'):AW pg G 201 (.loop b01) Q st:=by
 refine a0x Nat (fun j st=>j<=s.ws.length/\st.s 1= .var [slN g.nodes,li g.out]/\st.s 2=zP/\st.s 3= .lit .nilIface/\st.s 4= .var (eSn s)/\st.s 6=owS sp/\st.s 7=li size/\st.s 12= .var (gP { p with weights:=s.ws.take j })/\st.s 77=slD s.ws/\st.s 78=li s.ws.length/\st.s 79=li j) (fun j=>s.ws.length - j) 0 ⟨by omega,by rw [List.take_zero,<-hp]; exact h⟩ ?_
 clear h
 rintro j st K1 ⟨hj,h⟩ hK
 by_cases c:j < s.ws.length
 ·have hlw:=hws _ (List.getElem_mem c)
  have e2:s.ws.take (j+1)=s.ws.take j++[s.ws[j]]:=List.take_succ_eq_append_getElem c
  have hlv:(s.ws.take j).length=j:=by simp; omega
  generalize hv:s.ws.take j=vs at *
  simp only [gP] at h
  have spec:=a2b (G:=G) s.ws[j].shape s.ws[j].wide (by omega)
  simp (disch:=omega) [go_sem,b01,h,c]
  refine b0m [(12,st.ep 12)] (by simp) (by simp (disch:=omega) [go_sem,h]) ?_
  simp (disch:=omega) [go_sem,h]
  refine a0w spec rfl (by simp [a0y,a0z,a1i]) (by simp) [86,85] (by simp) (by simp (disch:=omega) [go_sem,h]) ?_
  simp (disch:=omega) [go_sem,h]
  refine a0c (by decide) fun s2 hs2 hep=> ?_
  simp (disch:=omega) [go_sem,hs2,hep,h]
  refine hK (j+1) _ ⟨by omega,?_⟩ (by omega)
  rw [e2]
  simp (disch:=omega) [go_sem,hs2,hep,h,gP,a5k,a5l,oD]
 ·have:j=s.ws.length:=by omega
  subst this
  rw [List.take_length] at h
  simp (disch:=omega) [go_sem,b01,h]
  exact hex _ (by simp (disch:=omega) [go_sem,h])
end
end Go.Ideal.Tryd
end
section
namespace Go.Ideal.Tryd
def eT2 (t:Int×Int):List AV:=[li t.1,li t.2]
@[go_sem] theorem f45 {xs:List (Int×Int)}:(fm eT2 xs).length=xs.length*2:=a6i fun _=>rfl
@[go_sem] theorem f44 {xs:List (Int×Int)} {i:Nat} (h:i < xs.length):((fm eT2 xs).drop (i*2)).take 2=[li xs[i].1,li xs[i].2]:=b0z (f:=eT2) (k:=2) (fun _=>rfl) h
@[go_sem] theorem f0c {xs:List (Int×Int)}:(fm eT2 xs).take (xs.length*2)=fm eT2 xs:=a38 fun _=>rfl
@[go_sem] theorem e29 {xs:List (Int×Int)}:a0m (fm eT2 xs)=true:=a7w fun _=>rfl
@[go_sem] theorem f40 {xs:List (Int×Int)}:a1k (fm eT2 xs)=fm eT2 xs:=by
 rw [a69]; congr 1
@[go_sem] theorem e28 {xs:List (Int×Int)}:a0z (fm eT2 xs)=true:=a7v fun n=>by simp [eT2,go_sem]
abbrev e0f (l:List (Int×Int)):AV:= .own 2 l.length (fm eT2 l)
section
variable {G:GG} {bk:Nat->Nat×Nat} {Q:Exit->St->Prop} {st:St}
theorem d3e {elems step:Int} (hs:1<=step/\step<=1024) (he:0<=elems/\elems < 2 ^ 40)
  (h:st.s 0=li elems/\st.s 5=li step/\st.s 6=e0f []/\st.s 7=li 0)
  (hex:∀ s:St,s.s 6=e0f (a4n step elems elems.toNat 0)->Q (.exit 0) s):AW pg G 41 (.loop a34) Q st:=by
 refine a0x (Nat×Int×List (Int×Int)) (fun p st=>0<=p.2.1/\p.2.1<=elems/\elems - p.2.1<=p.1/\(p.2.2.length:Int)<=p.2.1/\p.2.2++a4n step elems p.1 p.2.1=a4n step elems elems.toNat 0/\st.s 0=li elems/\st.s 5=li step/\st.s 6=e0f p.2.2/\st.s 7=li p.2.1) (fun p=>p.1) (elems.toNat,0,[]) ⟨by simp,by simpa using he.1,by simp only; omega,by simp,by simp,by simpa using h⟩ ?_
 clear h
 rintro ⟨k,a,l⟩ st K ⟨h0,h1,h2,h3,hm,h⟩ hK
 simp only at h0 h1 h2 h3 hm h
 cases k with
 | zero=>
  have:a=elems:=by omega
  subst this
  rw [a4n,List.append_nil] at hm
  simp (disch:=omega) [go_sem,a34,h]
  exact hex _ (by simp (disch:=omega) [go_sem,h,hm])
 | succ k=>
  rw [a4n] at hm
  by_cases c:a < elems
  ·rw [if_pos c] at hm
   by_cases c2:step < elems - a
   ·rw [if_pos c2] at hm
    simp (disch:=omega) [go_sem,a34,h,c,c2]
    exact hK (k,a+step,l++[(a,a+step)]) _ ⟨by simp only; omega,by simp only; omega,by simp only; omega,by simp; omega,by simpa using hm,by simp (disch:=omega) [go_sem,h,a5k,a5l,eT2]⟩ (by simp only; omega)
   ·rw [if_neg c2] at hm
    simp (disch:=omega) [go_sem,a34,h,c,c2]
    exact hK (k,elems,l++[(a,elems)]) _ ⟨by simp only; omega,by simp only; omega,by simp only; omega,by simp; omega,by simpa using hm,by simp (disch:=omega) [go_sem,h,a5k,a5l,eT2]⟩ (by simp only; omega)
  ·rw [if_neg c,List.append_nil] at hm
   simp (disch:=omega) [go_sem,a34,h,c]
   exact hex _ (by simp (disch:=omega) [go_sem,h,hm])
theorem d7p (elems unit:Int) (he:elems < 2 ^ 40):ACalls pg G c1i [li elems,li unit] (e0f (a6q elems unit)):=by
 refine b5w rfl ?_
 by_cases c:elems < 1\/unit < 1\/1024 < unit
 ·rw [a6q,if_pos c]
  rcases c with c | c | c
  ·simp (disch:=omega) [go_sem,a3v,c,a24]
  ·by_cases c1:elems < 1
   ·simp (disch:=omega) [go_sem,a3v,c1,a24]
   ·simp (disch:=omega) [go_sem,a3v,c,c1,a24]
  ·by_cases c1:elems < 1
   ·simp (disch:=omega) [go_sem,a3v,c1,a24]
   ·have c2:¬ unit < 1:=by omega
    simp (disch:=omega) [go_sem,a3v,c,c1,c2,a24]
 ·rw [a6q,if_neg c]
  have c1:¬ elems < 1:=by omega
  have c2:¬ unit < 1:=by omega
  have c3:¬ 1024 < unit:=by omega
  have hst:=c6q (u:=unit) (by omega) (by omega)
  have hst2:1024 / unit<=1024:=Int.ediv_le_self (a:=1024) unit (by decide)
  simp (disch:=omega) [go_sem,a3v,c1,c2,c3]
  have ht:Int.tdiv 1024 unit=1024 / unit:=Int.tdiv_eq_ediv_of_nonneg (by decide)
  refine d3e (elems:=elems) (step:=1024 / unit) ⟨hst.1,hst2⟩ ⟨by omega,he⟩ (by simp (disch:=omega) [go_sem,a24,ht]) (fun s h=> ?_)
  simp (disch:=omega) [go_sem,h]
theorem e4l (hS:SentG G bk) {g:Gr} {s:Sn} {sp:List Sp} {view:List Int} {j:Nat} {p:Pl} {x:In} {ts:List (Int×Int)} (hx:x.ins.length < 2 ^ 40) (hx2:x.args.length < 2 ^ 40) (hts:ts.length < 2 ^ 36) (hc:p.code.length<=2048)
  (h:st.s 1= .var [slN g.nodes,li g.out]/\st.s 2=zP/\st.s 3= .lit .nilIface/\st.s 4= .var (eSn s)/\st.s 6=owS sp/\st.s 15=owI view/\st.s 96=slI s.ord/\st.s 97=li s.ord.length/\st.s 98=li j/\st.s 12= .var (gP p)/\st.s 19= .var (eI x)/\st.s 147=e0f ts/\st.s 148=li ts.length/\st.s 149=li 0)
  (hret:a9a x p.code ts=none->∀ s':St,s'.s 2= .var (eP pl0)/\s'.s 3=a0r bk (.s 2)->Q .ret s')
  (hex:∀ code,a9a x p.code ts=some code->code.length<=2048->∀ s':St,(s'.s 1= .var [slN g.nodes,li g.out]/\s'.s 2=zP/\s'.s 3= .lit .nilIface/\s'.s 4= .var (eSn s)/\s'.s 6=owS sp/\s'.s 15=owI view/\s'.s 96=slI s.ord/\s'.s 97=li s.ord.length/\s'.s 98=li j/\s'.s 12= .var (gP { p with code:=code }))->Q (.exit 6) s'):AW pg G 201 (.loop b02) Q st:=by
 have h2:=hS.val 0 (by decide)
 refine a0x (Nat×List In) (fun q st=>q.1<=ts.length/\q.2.length<=2048/\a9a x q.2 (ts.drop q.1)=a9a x p.code ts/\st.s 1= .var [slN g.nodes,li g.out]/\st.s 2=zP/\st.s 3= .lit .nilIface/\st.s 4= .var (eSn s)/\st.s 6=owS sp/\st.s 15=owI view/\st.s 96=slI s.ord/\st.s 97=li s.ord.length/\st.s 98=li j/\st.s 12= .var (gP { p with code:=q.2 })/\st.s 19= .var (eI x)/\st.s 147=e0f ts/\st.s 148=li ts.length/\st.s 149=li q.1) (fun q=>ts.length - q.1) (0,p.code) ⟨by simp,hc,by simp,by simpa using h⟩ ?_
 clear h hc
 rintro ⟨i,code⟩ st K1 ⟨hi,hc,hm,h⟩ hK
 simp only at hi hc hm h
 by_cases c:i < ts.length
 ·have c1:=a8p (G:=G) x.ins hx
  have c2:=a8p (G:=G) x.args hx2
  rw [List.drop_eq_getElem_cons c,a9a] at hm
  simp only [gP,eI] at h
  simp (disch:=omega) [go_sem,b02,h,c]
  refine b0m [(22,st.ep 22+1),(21,st.ep 21+1)] (by simp) (by simp (disch:=omega) [go_sem,h]) ?_
  simp (disch:=omega) [go_sem,h]
  refine a8q (c1.shown (res':=slI x.ins) (by simp (disch:=omega) [go_sem])) rfl (by simp (disch:=omega) [go_sem,h]) (by simp) [156] (by simp) (by simp (disch:=omega) [go_sem,h]) ?_
  simp (disch:=omega) [go_sem,h]
  refine a8q (c2.shown (res':=slI x.args) (by simp (disch:=omega) [go_sem])) rfl (by simp (disch:=omega) [go_sem,h]) (by simp) [159] (by simp) (by simp (disch:=omega) [go_sem,h]) ?_
  simp (disch:=omega) [go_sem,h]
  refine a0c (by decide) fun s2 hs2 hep=> ?_
  simp (disch:=omega) [go_sem,hs2,hep,h]
  by_cases hb:2048 < code.length+1
  ·rw [if_pos hb] at hm
   have hb':(2048:Int) < code.length+1:=by omega
   simp (disch:=omega) [go_sem,hs2,hep,h,hb']
   refine a0b ?_
   simp (disch:=omega) [go_sem,hs2,hep,h,h2]
   refine a0c (by decide) fun s3 hs3 hep3=> ?_
   simp (disch:=omega) [go_sem,hs3,hs2,hep,h]
   exact hret hm.symm _ (by simp (disch:=omega) [go_sem,hs3,hs2,hep,h,a0r,eP,pl0,a24])
  ·rw [if_neg hb] at hm
   have hb':¬ (2048:Int) < code.length+1:=by omega
   simp (disch:=omega) [go_sem,hs2,hep,h,hb']
   refine hK (i+1,code++[{ x with frm:=ts[i].1,to:=ts[i].2 }]) _ ⟨by simp only; omega,by simp; omega,hm,?_⟩ (by simp only; omega)
   simp (disch:=omega) [go_sem,hs2,hep,h,gP,a5k,a5l,eI]
 ·have:i=ts.length:=by omega
  subst this
  rw [List.drop_length,a9a] at hm
  simp (disch:=omega) [go_sem,b02,h]
  exact hex _ hm.symm hc _ (by simp (disch:=omega) [go_sem,h])
end
end Go.Ideal.Tryd
end
section
namespace Go.Ideal.Tryd
attribute [local go_sem] eD
theorem c5t {cs:List Tn} {n:Nd} {view:List Int} (hn:n.sh):(a39 cs n view).1.ins.length < 2 ^ 40/\(a39 cs n view).1.args.length < 2 ^ 40/\(a39 cs n view).2.length<=cs.length+1:=by
 have h1:=hn.ins
 have h2:=hn.args
 unfold a39
 split
 ·simp; omega
 ·split
  ·simp
  ·split
   ·simp; omega
   ·simp; omega
theorem c6p {e u:Int} (h:e<=2 ^ 20):(a6q e u).length < 2 ^ 36:=by
 unfold a6q
 split
 ·simp
 ·have:=b5e (step:=1024 / u) (elems:=e) (k:=e.toNat) (a:=0)
  omega
@[go_sem] theorem g48 {xs:List Sp} {i:Nat} (h:i < xs.length):(fm eS xs)[i*4+2]? =some (li xs[i].off):=b0y (f:=eS) (k:=4) (j:=2) (fun _=>rfl) h (by omega)
theorem c7f {P:Program} {G:GG} {N:Nat} {st1 st2:St} {K:St->Prop} {d:Option Nat} {f:FuncId} {pre:List AV} {L:List (Nat×Nat)} {res:AV} {posts:List (Nat×AV)} (hA:ACallsX P G f pre res posts) (hn:noRef res=true) (hp:posts.map (·.1)=L.map (·.2)) (hv:b0i pre posts) (h12:b0t N st1 st2)
  (h:K (c5q st1 N ((L.map (·.1)).zip (posts.map (·.2))) d res)):clx P G N d f pre L st1 st2 K:=d08 hA hn hp hv h (by rw [b6c h12]; exact h)
section
variable {G:GG} {bk:Nat->Nat×Nat} {Q:Exit->St->Prop} {st:St}
theorem e4m (hS:SentG G bk) {g:Gr} {s:Sn} {sp:List Sp} {p0:Pl} (hn:∀ n∈g.nodes,n.sh) (hins:∀ n∈g.nodes,∀ k∈n.ins,0<=k/\k < (g.nodes.length:Int)) (hwt:∀ n∈g.nodes,n.op=3->0 < n.args.length) (hl:g.nodes.length<=64)
  (hdl:s.descs.length=g.nodes.length) (hds:∀ d∈s.descs,d.shape.length < 2 ^ 40) (hord:∀ x∈s.ord,0<=x/\x < (g.nodes.length:Int)) (hol:s.ord.length<=64) (hsp:g.nodes.length<=sp.length) (hv0:p0.views.length=1) (hc0:p0.consts=[]) (hcode0:p0.code=[])
  (h:st.s 1= .var [slN g.nodes,li g.out]/\st.s 2=zP/\st.s 3= .lit .nilIface/\st.s 4= .var (eSn s)/\st.s 6=owS sp/\st.s 96=slI s.ord/\st.s 97=li s.ord.length/\st.s 12= .var (gP p0)/\st.s 15=owI (List.replicate g.nodes.length 0)/\st.s 98=li 0)
  (hret:a7b g s sp p0 (List.replicate g.nodes.length 0) s.ord=none->∀ s':St,s'.s 2= .var (eP pl0)/\s'.s 3=a0r bk (.s 2)->Q .ret s')
  (hex:∀ p view,a7b g s sp p0 (List.replicate g.nodes.length 0) s.ord=some (p,view)->view.length=g.nodes.length->p.code.length<=2048->∀ s':St,s'.s 1= .var [slN g.nodes,li g.out]/\s'.s 2=zP/\s'.s 3= .lit .nilIface/\s'.s 12= .var (gP p)/\s'.s 15=owI view->Q (.exit 4) s'):AW pg G 201 (.loop a8v) Q st:=by
 refine a0x (Nat×Pl×List Int) (fun q st=>q.1<=s.ord.length/\q.2.1.views.length<=1+q.1/\q.2.1.consts.length<=q.1/\q.2.1.code.length<=2048/\q.2.2.length=g.nodes.length/\a7b g s sp q.2.1 q.2.2 (s.ord.drop q.1)=a7b g s sp p0 (List.replicate g.nodes.length 0) s.ord/\st.s 1= .var [slN g.nodes,li g.out]/\st.s 2=zP/\st.s 3= .lit .nilIface/\st.s 4= .var (eSn s)/\st.s 6=owS sp/\st.s 96=slI s.ord/\st.s 97=li s.ord.length/\st.s 12= .var (gP q.2.1)/\st.s 15=owI q.2.2/\st.s 98=li q.1) (fun q=>s.ord.length - q.1) (0,p0,List.replicate g.nodes.length 0) ⟨by simp,by simp [hv0],by simp [hc0],by simp [hcode0],by simp,by simp,by simpa using h⟩ ?_
 clear h hv0 hc0 hcode0
 rintro ⟨j,p,view⟩ st K1 ⟨hj,hvl,hcl,hcd,hvw,hm,h⟩ hK
 simp only at hj hvl hcl hcd hvw hm h
 by_cases c:j < s.ord.length
 ·have hx:=hord _ (List.getElem_mem c)
  obtain ⟨i,hi⟩:∃ i:Nat,s.ord[j]=i:=⟨s.ord[j].toNat,by omega⟩
  rw [hi] at hx
  have c1:i < g.nodes.length:=by omega
  have c2:i < sp.length:=by omega
  have c3:i < s.descs.length:=by omega
  have c4:i < view.length:=by omega
  have hmem:=List.getElem_mem c1
  rw [List.drop_eq_getElem_cons c,a7b,hi,Int.toNat_natCast,a3q c1,a3q c2,a3q c3] at hm
  by_cases hop:g.nodes[i].op=1
  ·rw [if_pos hop] at hm
   simp (disch:=omega) [go_sem,a8v,h,c,hi,c1,hop]
   exact hK (j+1,p,view) _ ⟨by simp only; omega,by simp only; omega,by simp only; omega,hcd,hvw,hm,by simp (disch:=omega) [go_sem,h]⟩ (by simp only; omega)
  ·rw [if_neg hop] at hm
   have hdi:=hds _ (List.getElem_mem c3)
   have k1:=a2b (G:=G) s.descs[i].shape s.descs[i].wide (by omega)
   have k2:=d54 (G:=G) { p with views:=p.views++[⟨sp[i].off,s.descs[i].shape,s.descs[i].wide⟩] } g.nodes[i] (view.set i p.views.length) (hn _ hmem) (fun k hk=>by rw [List.length_set,hvw]; exact hins _ hmem k hk) (hwt _ hmem) (by simp only; omega)
   have hil:=c5t (cs:=p.consts) (view:=view.set i p.views.length) (hn _ hmem)
   simp only at k2
   generalize hig:a39 p.consts g.nodes[i] (view.set i p.views.length)=ig at *
   obtain ⟨x,cs⟩:=ig
   simp only at hm k2 hil
   have k3:=c86 (G:=G) hS.o g s i c1 c3 (hn _ hmem) (fun k hk=>by rw [hdl]; exact hins _ hmem k hk) hds
   have hpe:(a4g g s i).1<=16384/\0<=(a4g g s i).1:=by
    have:=a68 s.descs[((i:Int)).toNat]!.shape
    simp only [a4g]
    omega
   generalize a4g g s (i:Int)=pr at *
   obtain ⟨el,un⟩:=pr
   simp only at hm k3 hpe
   have k4:=d7p (G:=G) el un (by omega)
   have htl:=c6p (e:=el) (u:=un) (by omega)
   generalize a6q el un=ts at *
   simp only [gP,eSn] at h
   simp only [eSn] at k3
   simp only [gP,a4p,eI] at k2
   simp only [owV,owI,a5k,a5l,oV,List.length_append,List.length_singleton,List.length_set,List.map_set] at k2
   simp (disch:=omega) [go_sem,a8v,h,c,hi,c1,c2,c3,c4,hop]
   refine b0m [(12,st.ep 12)] (by simp) (by simp (disch:=omega) [go_sem,h]) ?_
   simp (disch:=omega) [go_sem,h,hi,c1,c2,c3]
   refine a0w k1 rfl (by simp [a0y,a0z,a1i]) (by simp) [128,127] (by simp) (by simp (disch:=omega) [go_sem,h,hi,c1,c2,c3]) ?_
   simp (disch:=omega) [go_sem,h,hi,c1,c2,c3]
   refine a0c (by decide) fun s2 hs2 hep=> ?_
   simp (disch:=omega) [go_sem,hs2,hep,h,hi,c1,c2,c3,c4]
   refine c7f k2 rfl rfl (c5b rfl (c5a rfl c49)) (by simp (disch:=omega) [go_sem,hs2,hep,h,hi,c1,c2,c3,c4]) ?_
   have c5:((List.map li view).set i (li (p.views.length:Int)))[i]? =some (li (p.views.length:Int)):=List.getElem?_set_self (by simpa using c4)
   simp (disch:=omega) [go_sem,hs2,hep,h,hi,c1,c2,c3,c4,c5]
   refine a0i k3 rfl rfl ?_
   simp (disch:=omega) [go_sem,hs2,hep,h,hi,c1,c2,c3,c4,c5]
   refine a0i k4 rfl (by simp (disch:=omega) [go_sem]) ?_
   simp (disch:=omega) [go_sem,hs2,hep,h,hi,c1,c2,c3,c4,c5]
   refine e4l hS (g:=g) (s:=s) (sp:=sp) (view:=view.set i p.views.length) (j:=j) (p:={ p with views:=p.views++[⟨sp[i].off,s.descs[i].shape,s.descs[i].wide⟩],consts:=cs }) (x:={ x with dst:=p.views.length }) (ts:=ts) hil.1 hil.2.1 htl hcd (by simp (disch:=omega) [go_sem,hs2,hep,h,hi,c1,c2,c3,c4,c5,gP,eI,eSn,a5k,a5l,oV]) (fun hm2 s3 h3=> ?_) (fun code hm2 hc2 s3 h3=> ?_)
   ·simp only at hm2
    rw [hm2] at hm
    exact hret hm.symm _ h3
   ·simp only at hm2
    rw [hm2] at hm
    simp only [gP,eSn] at h3
    simp (disch:=omega) [go_sem,h3]
    exact hK (j+1,_,_) _ ⟨by simp only; omega,by simp; omega,by simp only; omega,hc2,by simpa using hvw,hm,by simp (disch:=omega) [go_sem,h3,gP,eSn]⟩ (by simp only; omega)
 ·have:j=s.ord.length:=by omega
  subst this
  rw [List.drop_length,a7b] at hm
  simp (disch:=omega) [go_sem,a8v,h]
  exact hex p view hm.symm hvw hcd _ (by simp (disch:=omega) [go_sem,h])
end
theorem b3h {a b:List AV}:a1k (a++b)=a1k a++a1k b:=by simp [b7s]
section
variable {G:GG} {bk:Nat->Nat×Nat} {Q:Exit->St->Prop} {st:St}
theorem d5x (hS:SentG G bk) (hA:Around G bk) (g:Gr) (hf:∀ n∈g.nodes,n.sh) (hn:g.nodes.length < 2 ^ 36) (htot:tot (g.nodes.map (·.ins)) < 2 ^ 40)
  (hwt:(ofR g).2.isNil=true->∀ n∈g.nodes,n.op=3->0 < n.args.length) (hws:(ofR g).2.isNil=true->∀ d∈(ofR g).1.ws,d.shape.length < 2 ^ 40) (hsp:(a8f g).2.isNil=true->g.nodes.length<=(a8f g).1.1.length/\(a8f g).1.1.length < 2 ^ 40) :
  ACalls pg G c3p [d3z g] (.tup [.agg (eP (d0e g).1),a0r bk (d0e g).2]):=by
 have h0:=hS.val 0 (by decide)
 have c2:=f7r hS.o hA g hf hn htot (fun hnil=>by
  obtain ⟨a1,a2,a3,a4,a5,a6,a7,a8,a9⟩:=d36 hf hnil
  exact ⟨a1,a4,by omega,a6,fun d hd=>by have:=a7 d hd; omega⟩)
 have hok:=d36 (g:=g) hf
 refine c2h rfl ?_
 simp (disch:=omega) [go_sem,c4c]
 refine a0k (g3s hS.o hA g hf hn htot) (by simp [go_sem,eSn,noRef]) (by simp (disch:=omega) [go_sem]) ?_
 rw [d0e]
 generalize hr:ofR g=r at *
 obtain ⟨s,e⟩:=r
 simp only at hok hwt hws ⊢
 cases he:e.isNil with
 | false=>simp (disch:=omega) [go_sem,he,eP,pl0,a24,eSn]
 | true=>
  obtain rfl:e= .nil:=a8w.1 he
  obtain ⟨hl,hout,hso,hord,hol,hdl,hds,hhin,hwl⟩:=hok he
  have hws:=hws he
  have hwt:=hwt he
  have hins:∀ n∈g.nodes,∀ k∈n.ins,0<=k/\k < (g.nodes.length:Int):=by
   have:=a77 (ins:=g.nodes.map (·.ins)) (fun r hr=>by
    obtain ⟨n,hn2,rfl⟩:=List.mem_map.1 hr
    have:=(hf n hn2).ins
    omega) hso
   simp only [List.length_map] at this
   exact fun n hn k hk=>this.2.2.2.2 n.ins (List.mem_map.2 ⟨n,hn,rfl⟩) k hk
  simp (disch:=omega) [go_sem,he,eSn]
  refine a0k c2 (by simp [go_sem,noRef]) (by simp (disch:=omega) [go_sem]) ?_
  generalize hlr:a8f g=l at *
  obtain ⟨⟨sp,size⟩,e2⟩:=l
  simp only at hsp ⊢
  cases he2:e2.isNil with
  | false=>simp (disch:=omega) [go_sem,he,he2,eP,pl0,a24,eSn]
  | true=>
   obtain rfl:e2= .nil:=a8w.1 he2
   obtain ⟨hsl,hsl2⟩:=hsp he2
   have hpos:0 < sp.length:=by omega
   rw [d16]
   simp (disch:=omega) [go_sem,he,he2]
   refine e4j hS (g:=g) (s:=s) (sp:=sp) (size:=size) hf hins hl hdl hds hord (by omega) (by simp (disch:=omega) [go_sem,eSn]) (fun i hd s1 h=> ?_) (fun hd s1 h=> ?_)
   ·simp only [eP,pl0] at h
    simp (disch:=omega) [go_sem,h,hd,eP,pl0]
   ·have k1:=d53 (G:=G) g sp (by omega) hsl hsl2 hpos
    have k2:=a2b (G:=G) s.hin.shape s.hin.wide (by omega)
    simp only [eS,eSn] at k1 h
    rw [hd]
    simp only
    generalize a92 sp g.nodes 0=inp at *
    simp (disch:=omega) [go_sem,h]
    refine a0b ?_
    simp (disch:=omega) [go_sem,h]
    refine a0w k1 rfl (by simp (disch:=omega) [go_sem]) (by simp) [68] (by simp) (by simp (disch:=omega) [go_sem,h]) ?_
    simp (disch:=omega) [go_sem,h]
    refine a0w k2 rfl (by simp [a0y,a0z,a1i]) (by simp) [72,71] (by simp) (by simp (disch:=omega) [go_sem,h]) ?_
    simp (disch:=omega) [go_sem,h]
    refine a0c (by decide) fun s2 hs2 hep=> ?_
    simp (disch:=omega) [go_sem,hs2,hep,h]
    refine e4k (g:=g) (s:=s) (sp:=sp) (size:=size) (p:=⟨size,[⟨inp.off,s.hin.shape,s.hin.wide⟩],[],[],[],0,0⟩) (by omega) hws rfl (by simp (disch:=omega) [go_sem,hs2,hep,h,gP,eSn,a24,a5l,oV]) (fun s3 h3=> ?_)
    simp only [gP,eSn] at h3
    simp (disch:=omega) [go_sem,h3]
    refine e4m hS (g:=g) (s:=s) (sp:=sp) (p0:=⟨size,[⟨inp.off,s.hin.shape,s.hin.wide⟩],[],s.ws,[],0,0⟩) hf hins hwt hl hdl hds hord (by omega) hsl rfl rfl rfl (by simp (disch:=omega) [go_sem,h3,gP,eSn]) (fun hm s4 h4=> ?_) (fun p view hm hvl hcl s4 h4=> ?_)
    ·rw [hm,b9z]
     simp only [eP,pl0] at h4
     simp (disch:=omega) [go_sem,h4,eP,pl0]
    ·rw [hm,b9z]
     obtain ⟨o,ho⟩:∃ o:Nat,g.out=o:=⟨g.out.toNat,by omega⟩
     rw [ho] at hout
     have ho2:o < view.length:=by omega
     simp only [gP] at h4
     rw [ho] at h4
     by_cases hb:2048 < p.code.length+1
     ·have hb':(2048:Int) < p.code.length+1:=by omega
      simp only [if_pos hb]
      simp (disch:=omega) [go_sem,h4,hb']
      refine a0b ?_
      simp (disch:=omega) [go_sem,h4,h0]
      refine a0c (by decide) fun s5 hs5 hep5=> ?_
      simp (disch:=omega) [go_sem,hs5,hep5,h4,eP,pl0,a0r,a24]
     ·have hb':¬ (2048:Int) < p.code.length+1:=by omega
      simp only [if_neg hb,ho,Int.toNat_natCast,a3q ho2]
      simp (disch:=omega) [go_sem,h4,hb',ho2,eP,a0r,a5k,a5l,b26,eI,b3h]
end
end Go.Ideal.Tryd
end
section
namespace Go.Ideal.Tryd
@[go_sem] theorem g49 {xs:List (Int×Int)} {i:Nat} (h:i < xs.length):(fm eT2 xs)[i*2]? =some (li xs[i].1):=b0y (f:=eT2) (k:=2) (j:=0) (fun _=>rfl) h (by omega)
@[go_sem] theorem g5a {xs:List (Int×Int)} {i:Nat} (h:i < xs.length):(fm eT2 xs)[i*2+1]? =some (li xs[i].2):=b0y (f:=eT2) (k:=2) (j:=1) (fun _=>rfl) h (by omega)
def c6e:Gr:=⟨[inN [0,2]],0⟩
theorem d6q:((d0e c6e).2.isNil&&decide ((d0e c6e).1.code=[b26]))=true:=by kernel_rfl
section
variable {G:GG} {bk:Nat->Nat×Nat} {Q:Exit->St->Prop} {st:St}
@[go_sem] theorem e26 {xs:List In} {i:Nat} (h:i < xs.length):(fm eI xs)[i*6]? =some (li xs[i].op):=b0y (f:=eI) (k:=6) (j:=0) (fun _=>rfl) h (by omega)
theorem c72 (hS:SentG G bk) (hA:Around G bk):ACalls pg G b0c [] (lb true):=by
 have h:=d6q
 simp only [Bool.and_eq_true,decide_eq_true_eq] at h
 have hw:(ofR c6e).1.ws=[]:=by
  have:(ofR c6e).1.ws.isEmpty=true:=by kernel_rfl
  exact List.isEmpty_iff.1 this
 have hs:(a8f c6e).1.1.length=1:=by
  have:decide ((a8f c6e).1.1.length=1)=true:=by kernel_rfl
  exact of_decide_eq_true this
 have spec:=d5x hS hA c6e (fun n hn=>by
  simp only [c6e,List.mem_singleton] at hn
  subst hn
  exact ⟨by simp [inN],by simp [inN],by simp [inN],by simp [inN]⟩) (by simp [c6e]) (by simp [c6e,inN,tot]) (fun _ n hn ho=>by
  simp only [c6e,List.mem_singleton] at hn
  subst hn
  simp [inN] at ho) (fun _ d hd=>by rw [hw] at hd; cases hd) (fun _=>by rw [hs]; simp [c6e])
 obtain ⟨h1,h2⟩:=h
 generalize d0e c6e=r at *
 obtain ⟨p,e⟩:=r
 simp only at h1 h2 spec
 obtain rfl:e= .nil:=a8w.1 h1
 have spec2:ACalls pg G c3p [.agg [.sl 1 [li 1,.sl 0 [],.sl 2 [li 0,li 2],.sl 0 [],lb false,.sl 0 []],li 0]] (.tup [.agg (eP p),.lit .nilIface]):=spec
 have hl:0 < p.code.length:=by rw [h2]; simp
 have e1:p.code[0].op=24:=by simp only [h2]; rfl
 have e2:(p.code.length:Int)=1:=by rw [h2]; rfl
 have e3:=e26 (xs:=p.code) (i:=0) hl
 rw [Nat.zero_mul,e1] at e3
 simp only [eP] at spec2
 refine a8y rfl ?_
 simp (disch:=omega) [go_sem,a6k]
 refine a7t spec2 (by simp [go_sem,noRef]) ?_ ?_<;>simp (disch:=omega) [go_sem,e2,hl,e3]
end
theorem a99 {E:Int}:∀ {k:Nat} {a:Int},a<=E->E - a<=k->(a4n 1024 E k a).length=((E - a+1023) / 1024).toNat
 | 0,a,h,hk=>by
  rw [a4n]
  simp only [List.length_nil]
  omega
 | k+1,a,h,hk=>by
  rw [a4n]
  by_cases c:a < E
  ·rw [if_pos c]
   by_cases c2:1024 < E - a
   ·rw [if_pos c2,List.length_cons,a99 (by omega) (by omega)]
    omega
   ·rw [if_neg c2,List.length_cons,a99 (by omega) (by omega)]
    omega
  ·rw [if_neg c]
   simp only [List.length_nil]
   omega
theorem c6o {E:Int} (h:1<=E):(a6q E 1).length=((E+1023) / 1024).toNat:=by
 rw [a6q,if_neg (by omega),show (1024:Int) / 1=1024 from rfl,a99 (by omega) (by omega)]
 simp
theorem b7k {g:Gr} {s:Sn}:∀ {is:List Int},(∀ i∈is,(a4g g s i).2<=1024)->b24 g s is=none
 | [],_=>rfl
 | i::is,h=>by
  have:=h i (by simp)
  rw [b24,if_neg (by omega),b7k (fun k hk=>h k (by simp [hk]))]
theorem d2q {d:Ds}:opU 8 [] [d]=1:=by simp [opU]
theorem c96 {d:Ds} (h:a04 d.shape= .nil):b8o 8 [] [d]=(1,.nil):=by
 rw [b8o,c4m h]
 simp [Er.isNil,d2q]
def b8c (n:Nat) (sh:List Int):Sn:=⟨a32 (n+1),(List.range (n+1)).map (fun _=>⟨sh,false⟩),⟨sh,false⟩,[]⟩
theorem d4e {n i:Nat} {sh:List Int} (h:i < n+1):(b8c n sh).descs[i]! =⟨sh,false⟩:=by
 unfold b8c
 rw [a3q (by simpa using h)]
 simp
theorem c4v {n j:Nat} {sh:List Int} (he:a04 sh= .nil) (h:j < n):a4g (rwG n sh) (b8c n sh) ((j+1:Nat):Int)=(a11 sh,1):=by
 have e1:a2t (b8c n sh).descs [(j:Int)]=[⟨sh,false⟩]:=by
  simp only [a2t,List.map_cons,List.map_nil,Int.toNat_natCast]
  rw [d4e (by omega)]
 unfold a4g
 rw [Int.toNat_natCast,d4e (by omega)]
 simp only [rwG,c0z h,opN]
 rw [e1,c96 he]
 rfl
theorem c9g {n:Nat} {sh:List Int}:(a4g (rwG n sh) (b8c n sh) 0).2=1:=by
 have h0:(rwG n sh).nodes[0]! =inN (0::sh):=c9d
 unfold a4g
 rw [show (0:Int).toNat=0 from rfl,h0]
 rfl
structure CodeOK (m:Nat) (code:List In) (j:Nat):Prop where
 len:code.length=j*m
 at_:∀ i,i < code.length->code[i]!.op=8/\code[i]!.dst=((i / m:Nat):Int)+1/\code[i]!.ins=[((i / m:Nat):Int)]
theorem CodeOK.step {m:Nat} {code:List In} {j:Nat} (h:CodeOK m code j) {ts:List (Int×Int)} (hl:ts.length=m):CodeOK m (code++ts.map fun t=>{ (⟨8,((j+1:Nat):Int),[(j:Int)],[],0,0⟩:In) with frm:=t.1,to:=t.2 }) (j+1):=by
 have hlen:=h.len
 refine ⟨by simp [hlen,hl,Nat.add_mul],fun i hi=> ?_⟩
 have hi':=hi
 simp only [List.length_append,List.length_map] at hi'
 by_cases c:i < code.length
 ·have:=h.at_ i c
  rw [a3q hi,List.getElem_append_left c,<-a3q c]
  exact this
 ·rw [a3q hi,List.getElem_append_right (by omega)]
  have hm:0 < m:=by omega
  have hd:i / m=j:=by
   have e:i=(i - code.length)+m*j:=by rw [Nat.mul_comm m j,<-hlen]; omega
   rw [e,Nat.add_mul_div_left _ _ hm,Nat.div_eq_of_lt (by omega)]
   omega
  simp [hd]
theorem d24 {n:Nat} {sh:List Int} {sp:List Sp} {m:Nat} (he:a04 sh= .nil) (hm:(a6q (a11 sh) 1).length=m) (hmn:n*m<=2000):∀ (k j:Nat),j+k=n->∀ (p:Pl) (view:List Int),p.views.length=j+1->p.consts=[]->p.weights=[]->p.input=0->view.length=n+1->(∀ i:Nat,i<=j->view[i]! =(i:Int))->CodeOK m p.code j->
  ∃ p' view',a7b (rwG n sh) (b8c n sh) sp p view ((a32 (n+1)).drop (j+1))=some (p',view')/\p'.views.length=n+1/\p'.consts=[]/\p'.weights=[]/\p'.input=0/\view'[n]! =(n:Int)/\CodeOK m p'.code n:=by
 intro k
 induction k with
 | zero=>
  intro j hj p view h1 h2 h3 h4 h5 h6 h7
  obtain rfl:j=n:=by omega
  refine ⟨p,view,?_,h1,h2,h3,h4,h6 j (by omega),h7⟩
  rw [List.drop_of_length_le (by rw [a3u]; omega),a7b]
 | succ k ih=>
  intro j hj p view h1 h2 h3 h4 h5 h6 h7
  have hlt:j+1 < (a32 (n+1)).length:=by rw [a3u]; omega
  have hnode:(rwG n sh).nodes[(((j+1:Nat)):Int).toNat]! =opN 8 [(j:Int)] []:=by
   rw [Int.toNat_natCast]
   exact c0z (by omega)
  rw [List.drop_eq_getElem_cons hlt,a44,a7b,hnode,if_neg (by simp [opN]),c4v he (by omega)]
  have hv:(view.set (((j+1:Nat)):Int).toNat (p.views.length:Int))[j]! =(j:Int):=by
   rw [Int.toNat_natCast]
   have:=h6 j (by omega)
   simp only [getElem!_def] at this ⊢
   rw [List.getElem?_set_ne (by omega)]
   exact this
  have hig:a39 p.consts (opN 8 [(j:Int)] []) (view.set (((j+1:Nat)):Int).toNat (p.views.length:Int))=(⟨8,0,[(j:Int)],[],0,0⟩,[]):=by
   unfold a39
   rw [if_pos (show a1d (opN 8 [(j:Int)] []).op=true from rfl),h2]
   simp only [opN,a5j,List.map_cons,List.map_nil,Int.toNat_natCast]
   rw [<-hv]
   simp only [Int.toNat_natCast]
  rw [hig]
  have hcl:=h7.len
  have hmj:j*m+m<=n*m:=by
   have:(j+1)*m<=n*m:=Nat.mul_le_mul_right m (by omega)
   rw [Nat.add_mul,Nat.one_mul] at this
   exact this
  rw [a9f (by rw [hcl,hm]; omega)]
  simp only
  refine ih (j+1) (by omega) _ _ (by simp [h1]) rfl h3 h4 (by simp [h5]) (fun i hi=> ?_) ?_
  ·rw [Int.toNat_natCast]
   by_cases c:i=j+1
   ·subst c
    rw [a3q (by rw [List.length_set]; omega),List.getElem_set_self,h1]
   ·have:=h6 i (by omega)
    simp only [getElem!_def] at this ⊢
    rw [List.getElem?_set_ne (by omega)]
    exact this
  ·have:=h7.step hm
   rw [h1]
   exact this
theorem e8b {n:Nat} {sh:List Int} {m:Nat} (hn:1<=n/\n<=60) (he:a04 sh= .nil) (hsz:1<=a11 sh/\a11 sh<=10000) (hm:(a6q (a11 sh) 1).length=m) (hmn:n*m<=2000) :
  ∃ p,d0e (rwG n sh)=(p,.nil)/\(∃ code,p.code=code++[b26]/\CodeOK m code n)/\p.views.length=n+1/\p.input=0/\p.output=(n:Int)/\p.consts=[]/\p.weights=[]:=by
 have ho:upI (a18 sh false)=(a11 sh+3) / 4*4:=by
  unfold a18 upI
  simp only [Bool.false_eq_true,if_false]
  rw [if_neg (by omega)]
 obtain ⟨l,hl,hll⟩:=c9e (n:=n) hn he ho (by omega)
 have hof:=c9f (n:=n) (sh:=sh) (by omega) he
 have hdear:b24 (rwG n sh) (b8c n sh) (b8c n sh).ord=none:=b7k (fun i hi=>by
  simp only [b8c,a32,List.mem_map,List.mem_range] at hi
  obtain ⟨j,hj,rfl⟩:=hi
  cases j with
  | zero=>rw [show ((0:Nat):Int)=0 from rfl,c9g]; omega
  | succ j=>rw [c4v he (by omega)]; simp only; omega)
 have hsn:(⟨a32 (n+1),(List.range (n+1)).map (fun _=>⟨sh,false⟩),⟨sh,false⟩,[]⟩:Sn)=b8c n sh:=rfl
 rw [hsn] at hof
 obtain ⟨p',view',h1,h2,h3,h4,h5,h6,h7⟩:=d24 (n:=n) (sh:=sh) (sp:=l) (m:=m) he hm hmn n 0 (by omega) ⟨2*((a11 sh+3) / 4*4),[⟨(a92 l (rwG n sh).nodes 0).off,sh,false⟩],[],[],[],0,0⟩ (List.replicate (n+1) 0) rfl rfl rfl rfl (by simp) (fun i hi=>by
  obtain rfl:i=0:=by omega
  rw [a3q (by simp)]; simp) ⟨by simp,fun i hi=>by simp at hi⟩
 have hlen:(rwG n sh).nodes.length=n+1:=a96
 have hgo:a7b (rwG n sh) (b8c n sh) l ⟨2*((a11 sh+3) / 4*4),[⟨(a92 l (rwG n sh).nodes 0).off,sh,false⟩],[],[],[],0,0⟩ (List.replicate (n+1) 0) (b8c n sh).ord=some (p',view'):=by
  rw [<-h1]
  have e:(b8c n sh).ord=0::(a32 (n+1)).drop 1:=by
   simp only [b8c]
   rw [b5i]; rfl
  rw [e,a7b,if_pos d69]
 have hc:=h7.len
 refine ⟨{ p' with code:=p'.code++[b26],output:=view'[n]! },?_,⟨p'.code,rfl,h7⟩,h2,h5,h6,h3,h4⟩
 unfold d0e d16
 rw [hof,hl]
 simp only [Er.isNil,if_true]
 rw [hdear]
 simp only [hlen]
 have hgo2:a7b (rwG n sh) (b8c n sh) l ⟨2*((a11 sh+3) / 4*4),[⟨(a92 l (rwG n sh).nodes 0).off,(b8c n sh).hin.shape,(b8c n sh).hin.wide⟩],[],(b8c n sh).ws,[],0,0⟩ (List.replicate (n+1) 0) (b8c n sh).ord=some (p',view'):=hgo
 rw [hgo2,b9z]
 simp only
 rw [if_neg (by omega)]
 rfl
end Go.Ideal.Tryd
end
