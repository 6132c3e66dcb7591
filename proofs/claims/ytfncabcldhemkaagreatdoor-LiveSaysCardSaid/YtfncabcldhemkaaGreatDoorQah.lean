/- Part Qah of the proof: walks on a machine that is proved sound. -/
import Derived.Test.YtfncabcldhemkaaGreatDoorQag
set_option linter.unusedVariables false
set_option linter.unusedSimpArgs false
set_option maxRecDepth 10000
section
namespace Go.Ideal.Tryz
section
variable {Q:Exit->St->Prop} {st:St}
def b2a (v:Int):List Int->Nat->Int
 | [],_=> -1
 | x::xs,i=>if v=x then i else b2a v xs (i+1)
theorem c4u {v:Int} {bs:List Int} {i k:Nat} (h:i < bs.length):b2a v (bs.drop i) k=if v=bs[i] then (k:Int) else b2a v (bs.drop (i+1)) (k+1):=by
 rw [List.drop_eq_getElem_cons h]; rfl
theorem d22 (G:GG) (bs:List Int) (v:Int) (hlen:bs.length < 2 ^ 62):ACalls pg G b3a [slI bs,li v] (li (b2a v bs 0)):=by
 refine b1d rfl ?_
 simp (disch:=omega) [go_sem,a70]
 refine a0u Nat (fun i st=>st.s 0=slI bs/\st.s 1=li v/\st.s 7=li bs.length/\st.s 8=li i/\i<=bs.length/\b2a v (bs.drop i) i=b2a v bs 0) (fun i=>bs.length - i) 0 ?_ ?_
 ·simp (disch:=omega) [go_sem]
 ·rintro i st K ⟨h0,h1,h7,h8,hi,hno⟩ hK
  by_cases hlt:i < bs.length
  ·rw [c4u hlt] at hno
   by_cases hv:v=bs[i]
   ·rw [if_pos hv] at hno
    simp (disch:=omega) [go_sem,a3j,h0,h1,h7,h8,hlt,<-hno,hv]
    rw [<-hv]; exact hno
   ·rw [if_neg hv] at hno
    simp (disch:=omega) [go_sem,a3j,h0,h1,h7,h8,hlt,hv]
    exact hK (i+1) _ ⟨by simp [h0],by simp [h1],by simp [h7],by simp,by omega,hno⟩ (by omega)
  ·rw [List.drop_eq_nil_of_le (by omega)] at hno
   simp (disch:=omega) [go_sem,a3j,h0,h1,h7,h8,hlt,<-hno,b2a]
theorem c2m {v:Int}:∀ {bs:List Int} {i:Nat},0<=b2a v bs i↔v∈bs
 | [],i=>by simp [b2a]
 | x::xs,i=>by
  simp only [b2a,List.mem_cons]
  split
  ·rename_i h; simp [h]
  ·rename_i h; rw [c2m]; simp [h]
theorem c63 (G:GG) (bs:List Int) (v:Int) (hlen:bs.length < 2 ^ 62):ACalls pg G b0i [slI bs,li v] (lb (decide (v∈bs))):=by
 refine a88 rfl ?_
 simp (disch:=omega) [go_sem,a6g]
 refine a0c (d22 G bs v hlen) rfl rfl ?_
 simp (disch:=omega) [go_sem,c2m]
theorem d5c (G:GG) (bs:List Int) (v:Int) (hlen:bs.length < 2 ^ 62):ACalls pg G b55 [slI bs,li v] (lb (decide (v∈bs))):=by
 refine b2w rfl ?_
 simp (disch:=omega) [go_sem,a9y]
 refine a0u Nat (fun i st=>st.s 0=slI bs/\st.s 1=li v/\st.s 5=li i/\i<=bs.length/\v ∉ bs.take i) (fun i=>bs.length - i) 0 ?_ ?_
 ·simp (disch:=omega) [go_sem]
 ·rintro i st K ⟨h0,h1,h5,hi,hno⟩ hK
  by_cases hlt:i < bs.length
  ·by_cases hv:bs[i]=v
   ·have hm:v∈bs:=hv ▸ List.getElem_mem hlt
    simp (disch:=omega) [go_sem,a4a,h0,h1,h5,hlt,hv,hm]
   ·simp (disch:=omega) [go_sem,a4a,h0,h1,h5,hlt,hv]
    refine hK (i+1) _ ⟨by simp [h0],by simp [h1],by simp [h5],by omega,?_⟩ (by omega)
    rw [List.take_succ_eq_append_getElem hlt]
    simp only [List.mem_append,List.mem_singleton,not_or]
    exact ⟨hno,fun h=>hv h.symm⟩
  ·have hm:v ∉ bs:=by rw [List.take_of_length_le (by omega)] at hno; exact hno
   simp (disch:=omega) [go_sem,a4a,h0,h1,h5,hlt,hm]
theorem d4u (G:GG) (xs:List Int) (hlen:xs.length < 2 ^ 40):ACalls pg G b0f [slI xs] (owI xs):=by
 refine b3r rfl ?_
 simp (disch:=omega) [go_sem,b0z]
 refine a0u Nat (fun i st=>st.s 0=slI xs/\(∃ ys,ys=xs.take i/\st.s 3=owI ys)/\st.s 4=li i/\i<=xs.length) (fun i=>xs.length - i) 0 ?_ ?_
 ·exact ⟨by simp (disch:=omega) [go_sem],⟨[],by simp,by simp (disch:=omega) [go_sem]⟩,by simp (disch:=omega) [go_sem],by omega⟩
 ·rintro i st K ⟨h0,⟨ys,hys,h3⟩,h4,hi⟩ hK
  have hl:ys.length=i:=by rw [hys]; simp; omega
  by_cases hlt:i < xs.length
  ·simp (disch:=omega) [go_sem,a6m,h0,h3,h4,hlt]
   refine hK (i+1) _ ⟨by simp (disch:=omega) [go_sem,h0],⟨ys++[xs[i]],by rw [List.take_succ_eq_append_getElem hlt,hys],?_⟩,by simp (disch:=omega) [go_sem,h4],by omega⟩ (by omega)
   simp (disch:=omega) [go_sem]
  ·obtain rfl:i=xs.length:=by omega
   have:ys=xs:=by rw [hys]; simp
   subst this
   simp (disch:=omega) [go_sem,a6m,h0,h3,h4]
end
end Go.Ideal.Tryz
end
section
namespace Go.Ideal
def fm {α:Type} (f:α->List AV) (xs:List α):List AV:=xs.flatMap f
section
variable {α:Type} {f:α->List AV} {k:Nat} {xs:List α}
@[go_sem] theorem e8n {z y:AV} {zs:List AV}:a6s 1 (z::y::zs)=z::y::zs:=by simp [a6s]
theorem a5s:fm f []=[]:=rfl
theorem a7a {x:α}:fm f (x::xs)=f x++fm f xs:=rfl
theorem c2h (hf:∀ x,(f x).length=k):(fm f xs).length=xs.length*k:=by
 induction xs with
 | nil=>simp [fm]
 | cons x xs ih=>rw [a7a,List.length_append,hf,ih,List.length_cons,Nat.add_mul,Nat.one_mul,Nat.add_comm]
theorem a9v {x:α}:fm f [x]=f x:=by simp [fm]
theorem c0g (hf:∀ x,(f x).length=k):(fm f xs).take (xs.length*k)=fm f xs:=List.take_of_length_le (by rw [c2h hf]; exact Nat.le_refl _)
theorem b17 {ys:List α}:fm f (xs++ys)=fm f xs++fm f ys:=by simp [fm,List.flatMap_append]
theorem c55 (hf:∀ x,(f x).length=k) {i:Nat} (h:i < xs.length):((fm f xs).drop (i*k)).take k=f xs[i]:=by
 induction xs generalizing i with
 | nil=>simp at h
 | cons x xs ih=>
  rw [a7a]
  cases i with
  | zero=>rw [Nat.zero_mul,List.drop_zero,List.take_append_of_le_length (by rw [hf]; exact Nat.le_refl _),List.take_of_length_le (by rw [hf]; exact Nat.le_refl _)]; rfl
  | succ i=>
   rw [Nat.add_mul,Nat.one_mul,List.drop_append,hf,List.drop_of_length_le (by rw [hf]; omega),List.nil_append,Nat.add_sub_cancel]
   rw [ih (by simpa using h)]
   rfl
theorem d2w {a b:List AV}:a2z (a++b)=a2z a++a2z b:=by simp only [c4n,List.map_append]
theorem c9c:a2z (fm f xs)=fm (fun x=>a2z (f x)) xs:=by
 induction xs with
 | nil=>simp [fm,a2z]
 | cons x xs ih=>rw [a7a,a7a,d2w,ih]
end
end Go.Ideal
end
section
namespace Go.Ideal.Tryz
structure Nd where
 op:Int
 ins:List Int
 args:List Int
 shape:List Int
 wide:Bool
 data:List Int
def a5q (n:Nd):List AV:=[li n.op,slI n.ins,slI n.args,slI n.shape,lb n.wide,slI n.data]
@[go_sem] theorem e6u {xs:List Nd}:(fm a5q xs).length=xs.length*6:=c2h fun _=>rfl
@[go_sem] theorem e6t {xs:List Nd} {i:Nat} (h:i < xs.length):((fm a5q xs).drop (i*6)).take 6=[li xs[i].op,slI xs[i].ins,slI xs[i].args,slI xs[i].shape,lb xs[i].wide,slI xs[i].data]:=c55 (f:=a5q) (k:=6) (fun _=>rfl) h
section
variable {G:GG} {Q:Exit->St->Prop} {st:St}
def c1b (i:Nat):List Int->List (List Int)->List (List Int)
 | [],u=>u
 | k::ks,u=>c1b i ks (if 0<=k/\k < (u.length:Int)/\(i:Int) ∉ u[k.toNat]! then u.set k.toNat (u[k.toNat]! ++[(i:Int)]) else u)
def c78:List (List Int)->Nat->List (List Int)->List (List Int)
 | [],_,u=>u
 | r::rs,i,u=>c78 rs (i+1) (c1b i r u)
theorem d74 {row:List Int} {u0:List (List Int)} {i c:Nat} {v13 v14 v15:AV} (hu:u0.length < 2 ^ 40) (hr:row.length < 2 ^ 40) (hc:c+row.length < 2 ^ 41) (hb:∀ r∈u0,r.length<=c) (e13:∃ n ks,v13= .sl n ks) (e14:∃ v,v14= .lit v) (e15:∃ v,v15= .lit v)
  (h21:st.s 21=slI row) (h22:st.s 22=li row.length) (h23:st.s 23=li 0) (h3:st.s 3=b8k u0) (h4:st.s 4=li i) (h13:st.s 13=v13) (h14:st.s 14=v14) (h15:st.s 15=v15)
  (hex:∀ s,s.s 3=b8k (c1b i row u0)->s.s 13=v13->s.s 14=v14->s.s 15=v15->(c1b i row u0).length=u0.length->(∀ r∈c1b i row u0,r.length<=c+row.length)->Q (.exit 2) s):AW pg G 57 (.loop a37) Q st:=by
 obtain ⟨n13,k13,rfl⟩:=e13
 obtain ⟨w14,rfl⟩:=e14
 obtain ⟨w15,rfl⟩:=e15
 refine a0u (Nat×List (List Int)) (fun p st=>p.1<=row.length/\c1b i (row.drop p.1) p.2=c1b i row u0/\p.2.length=u0.length/\(∀ r∈p.2,r.length<=c+p.1)/\st.s 21=slI row/\st.s 22=li row.length/\st.s 23=li p.1/\st.s 3=b8k p.2/\st.s 4=li i/\st.s 13= .sl n13 k13/\st.s 14= .lit w14/\st.s 15= .lit w15) (fun p=>row.length - p.1) (0,u0) ?_ ?_
 ·exact ⟨by simp,rfl,rfl,fun r hr=>by have:=hb r hr; omega,h21,h22,h23,h3,h4,h13,h14,h15⟩
 ·clear h21 h22 h23 h3 h4 h13 h14 h15
  rintro ⟨j,u⟩ st K ⟨hj,ht,hl,hb2,h21,h22,h23,h3,h4,h13,h14,h15⟩ hK
  simp only at hj ht hl hb2 h23 h3
  by_cases hlt:j < row.length
  ·rw [List.drop_eq_getElem_cons hlt,c1b] at ht
   by_cases k1:0<=row[j]
   ·by_cases k2:row[j] < (u.length:Int)
    ·have k3:row[j].toNat < u.length:=by omega
     have k4:u[row[j].toNat].length < 2 ^ 62:=by have:=hb2 _ (List.getElem_mem k3); omega
     simp (disch:=omega) [go_sem,a37,h21,h22,h23,h3,h4,hlt,k1,k2]
     refine a0c (c63 G u[row[j].toNat] i k4) rfl rfl ?_
     by_cases k5:(i:Int)∈u[row[j].toNat]
     ·rw [if_neg (by simp [k3,k5])] at ht
      simp (disch:=omega) [go_sem,h21,h22,h23,h3,h4,hlt,k1,k2,k5]
      exact hK (j+1,u) _ ⟨by simp only; omega,ht,hl,fun r hr=>by have:=hb2 r hr; simp only; omega,by simp (disch:=omega) [go_sem,h21],by simp (disch:=omega) [go_sem,h22],by simp (disch:=omega) [go_sem,h23],by simp (disch:=omega) [go_sem,h3],by simp (disch:=omega) [go_sem,h4],by simp (disch:=omega) [go_sem,h13],by simp (disch:=omega) [go_sem,h14],by simp (disch:=omega) [go_sem,h15]⟩ (by simp only; omega)
     ·rw [if_pos (by simp [k1,k2,k3,k5])] at ht
      have k6:u[row[j].toNat].length<=c+j:=hb2 _ (List.getElem_mem k3)
      simp (disch:=omega) [go_sem,h21,h22,h23,h3,h4,hlt,k1,k2,k5]
      refine hK (j+1,u.set row[j].toNat (u[row[j].toNat]! ++[(i:Int)])) _ ⟨by simp only; omega,ht,by simpa using hl,fun r hr=> ?_,by simp (disch:=omega) [go_sem,h21],by simp (disch:=omega) [go_sem,h22],by simp (disch:=omega) [go_sem,h23],by simp (disch:=omega) [go_sem,h3,k3],by simp (disch:=omega) [go_sem,h4],by simp (disch:=omega) [go_sem,h13],by simp (disch:=omega) [go_sem,h14],by simp (disch:=omega) [go_sem,h15]⟩ (by simp only; omega)
      simp only at hr ⊢
      rcases List.mem_or_eq_of_mem_set hr with hr | rfl
      ·have:=hb2 r hr; omega
      ·simp [k3]; omega
    ·rw [if_neg (by simp; omega)] at ht
     simp (disch:=omega) [go_sem,a37,h21,h22,h23,h3,h4,hlt,k1,k2]
     exact hK (j+1,u) _ ⟨by simp only; omega,ht,hl,fun r hr=>by have:=hb2 r hr; simp only; omega,by simp (disch:=omega) [go_sem,h21],by simp (disch:=omega) [go_sem,h22],by simp (disch:=omega) [go_sem,h23],by simp (disch:=omega) [go_sem,h3],by simp (disch:=omega) [go_sem,h4],by simp (disch:=omega) [go_sem,h13],by simp (disch:=omega) [go_sem,h14],by simp (disch:=omega) [go_sem,h15]⟩ (by simp only; omega)
   ·rw [if_neg (by simp; omega)] at ht
    simp (disch:=omega) [go_sem,a37,h21,h22,h23,h3,h4,hlt,k1]
    exact hK (j+1,u) _ ⟨by simp only; omega,ht,hl,fun r hr=>by have:=hb2 r hr; simp only; omega,by simp (disch:=omega) [go_sem,h21],by simp (disch:=omega) [go_sem,h22],by simp (disch:=omega) [go_sem,h23],by simp (disch:=omega) [go_sem,h3],by simp (disch:=omega) [go_sem,h4],by simp (disch:=omega) [go_sem,h13],by simp (disch:=omega) [go_sem,h14],by simp (disch:=omega) [go_sem,h15]⟩ (by simp only; omega)
  ·obtain rfl:j=row.length:=by omega
   rw [List.drop_eq_nil_of_le (Nat.le_refl _),c1b] at ht
   subst ht
   simp (disch:=omega) [go_sem,a37,h21,h22,h23]
   exact hex _ (by simp (disch:=omega) [go_sem,h3]) (by simp (disch:=omega) [go_sem,h13]) (by simp (disch:=omega) [go_sem,h14]) (by simp (disch:=omega) [go_sem,h15]) hl hb2
theorem c6r {i:Nat}:∀ {row:List Int} {u:List (List Int)},(c1b i row u).length=u.length
 | [],u=>rfl
 | k::ks,u=>by
  rw [c1b,c6r]
  split<;>simp
theorem e51 (g:List Nd) (out:Int) (hg:g.length < 2 ^ 40) (hc:tot (g.map (·.ins)) < 2 ^ 40):ACalls pg G c1d [.agg [.sl g.length (fm a5q g),li out]] (b8k (c78 (g.map (·.ins)) 0 (List.replicate g.length []))):=by
 refine b69 rfl ?_
 simp (disch:=omega) [go_sem,b5f]
 have hlm:(g.map (·.ins)).length=g.length:=by simp
 refine a0u (Nat×List (List Int)) (fun p st=>p.1<=g.length/\c78 ((g.map (·.ins)).drop p.1) p.1 p.2=c78 (g.map (·.ins)) 0 (List.replicate g.length [])/\p.2.length=g.length/\(∀ r∈p.2,r.length<=tot ((g.map (·.ins)).take p.1))/\st.s 3=b8k p.2/\st.s 13= .sl g.length (fm a5q g)/\st.s 14=li g.length/\st.s 15=li p.1) (fun p=>g.length - p.1) (0,List.replicate g.length []) ?_ ?_
 ·exact ⟨by simp,rfl,by simp,fun r hr=>by rw [List.eq_of_mem_replicate hr]; simp,by simp (disch:=omega) [go_sem],by simp (disch:=omega) [go_sem],by simp (disch:=omega) [go_sem],by simp (disch:=omega) [go_sem]⟩
 ·rintro ⟨i,u⟩ st K ⟨hi,ht,hl,hb,h3,h13,h14,h15⟩ hK
  simp only at hi ht hl hb h3 h15
  by_cases hlt:i < g.length
  ·have hlt2:i < (g.map (·.ins)).length:=by omega
   obtain ⟨t1,t2⟩:=c6q hlt2
   rw [List.getElem_map] at t1
   rw [List.drop_eq_getElem_cons hlt2,List.getElem_map,c78] at ht
   simp (disch:=omega) [go_sem,a9c,h3,h13,h14,h15,hlt]
   refine d74 (row:=g[i].ins) (u0:=u) (i:=i) (c:=tot ((g.map (·.ins)).take i)) (v13:= .sl g.length (fm a5q g)) (v14:=li g.length) (v15:=li i) (by omega) (by omega) (by omega) hb ⟨_,_,rfl⟩ ⟨_,rfl⟩ ⟨_,rfl⟩ (by simp (disch:=omega) [go_sem]) (by simp (disch:=omega) [go_sem]) (by simp (disch:=omega) [go_sem]) (by simp (disch:=omega) [go_sem,h3]) (by simp (disch:=omega) [go_sem]) (by simp (disch:=omega) [go_sem,h13]) (by simp (disch:=omega) [go_sem,h14]) (by simp (disch:=omega) [go_sem,h15]) ?_
   intro s k3 k13 k14 k15 kl kb
   simp (disch:=omega) [go_sem,k15]
   exact hK (i+1,c1b i g[i].ins u) _ ⟨by simp only; omega,ht,by simp only; omega,fun r hr=>by have:=kb r hr; simp only; omega,by simp (disch:=omega) [go_sem,k3],by simp (disch:=omega) [go_sem,k13],by simp (disch:=omega) [go_sem,k14],by simp (disch:=omega) [go_sem,k15]⟩ (by simp only; omega)
  ·obtain rfl:i=g.length:=by omega
   rw [List.drop_eq_nil_of_le (by omega),c78] at ht
   subst ht
   simp (disch:=omega) [go_sem,a9c,h3,h13,h14,h15]
end
theorem c06 {i:Nat}:∀ {row:List Int} {u:List (List Int)} {t:Nat},t < u.length->(c1b i row u)[t]! =if (t:Int)∈row/\(i:Int) ∉ u[t]! then u[t]! ++[(i:Int)] else u[t]!
 | [],u,t,ht=>by simp [c1b]
 | k::ks,u,t,ht=>by
  rw [c1b]
  by_cases hc:0<=k/\k < (u.length:Int)/\(i:Int) ∉ u[k.toNat]!
  ·rw [if_pos hc]
   have hk:k.toNat < u.length:=by omega
   rw [c06 (by simpa using ht),get!_set hk]
   by_cases htk:t=k.toNat
   ·subst htk
    have:((k.toNat:Nat):Int)=k:=by omega
    rw [if_pos rfl,if_neg (by simp),if_pos ⟨by rw [this]; simp,hc.2.2⟩]
   ·have:(t:Int)≠k:=by omega
    simp only [htk,if_false,List.mem_cons,this,false_or]
  ·rw [if_neg hc,c06 ht]
   by_cases htk:(t:Int)=k
   ·have h1:k.toNat=t:=by omega
    rw [h1] at hc
    have h2:(i:Int)∈u[t]! :=by
     by_cases h:(i:Int)∈u[t]!
     ·exact h
     ·exact absurd ⟨by omega,by omega,h⟩ hc
    rw [if_neg (fun h=>h.2 h2),if_neg (fun h=>h.2 h2)]
   ·simp only [List.mem_cons,htk,false_or]
def sp (t:Nat):List (List Int)->Nat->List Int
 | [],_=>[]
 | r::rs,i=>(if (t:Int)∈r then [(i:Int)] else [])++sp t rs (i+1)
theorem b6q {t:Nat}:∀ {rs:List (List Int)} {i:Nat} {u:List (List Int)},t < u.length->(∀ x∈u[t]!,x < (i:Int))->(c78 rs i u)[t]! =u[t]! ++sp t rs i/\(c78 rs i u).length=u.length
 | [],i,u,ht,hx=>by simp [c78,sp]
 | r::rs,i,u,ht,hx=>by
  rw [c78]
  have hl:(c1b i r u).length=u.length:=c6r
  have hn:(i:Int) ∉ u[t]! :=fun h=>by have:=hx _ h; omega
  have hg:=c06 (i:=i) (row:=r) ht
  by_cases hr:(t:Int)∈r
  ·rw [if_pos ⟨hr,hn⟩] at hg
   obtain ⟨h1,h2⟩:=b6q (t:=t) (rs:=rs) (i:=i+1) (u:=c1b i r u) (by omega) (fun x hxx=>by
    rw [hg] at hxx
    rcases List.mem_append.1 hxx with h | h
    ·have:=hx x h; omega
    ·simp at h; omega)
   rw [h1,h2,hg,sp,if_pos hr,hl]
   simp
  ·rw [if_neg (fun h=>hr h.1)] at hg
   obtain ⟨h1,h2⟩:=b6q (t:=t) (rs:=rs) (i:=i+1) (u:=c1b i r u) (by omega) (fun x hxx=>by
    rw [hg] at hxx
    have:=hx x hxx; omega)
   rw [h1,h2,hg,sp,if_neg hr,hl]
   simp
theorem e5r {t:Nat}:∀ {rs:List (List Int)} {i:Nat},∀ x∈sp t rs i,(i:Int)<=x
 | [],i,x,h=>by simp [sp] at h
 | r::rs,i,x,h=>by
  rw [sp] at h
  rcases List.mem_append.1 h with h | h
  ·split at h<;>simp at h; omega
  ·have:=e5r x h; omega
theorem d45 {t:Nat}:∀ {rs:List (List Int)} {i:Nat},(sp t rs i).length<=rs.length
 | [],i=>by simp [sp]
 | r::rs,i=>by
  rw [sp,List.length_append]
  have:=d45 (t:=t) (rs:=rs) (i:=i+1)
  split<;>simp<;>omega
def a2o:IC:=(.seq (.seq (.reg [om 9 3,
 oo 10 (.faddr 49 0 (.t 1) 0),
 oo 11 (.load 47 none (.t 10)),
 oo 12 (.len 47 false (.t 11)),
 oo 13 (.bin .lss 3 0 (.t 9) (.t 12) 3)]) (.cond (.t 13) .skip (.exit 0))) (.seq (.block 1 (.seq (.reg [oo 16 (.faddr 49 0 (.t 1) 0),
 oo 17 (.load 47 none (.t 16)),
 om 18 3,
 oo 19 (.iaddr 47 6 (.t 17) (.t 18)),
 oo 20 (.load 108 (some 6) (.t 19)),
 oo 4 (.alloc 108 [.lit (.int .i64 0),.own 1 0 [],.own 1 0 [],.own 1 0 [],.lit (.bool false),.own 1 0 []]),
 ov (.store 108 6 (.t 4) (.t 20))]) (.seq (.reg [oo 21 (.faddr 108 1 (.t 4) 1),
 oo 22 (.load 74 none (.t 21)),
 oo 23 (.len 74 false (.t 22)),
 oo 24 (.bin .gtr 3 0 (.t 23) (.n 10) 3),
 om 25 24,
 og 26 (.faddr 108 2 (.t 4) 2) 4 25 false,
 og 27 (.load 74 none (.t 26)) 4 25 false,
 og 28 (.len 74 false (.t 27)) 4 25 false,
 og 29 (.bin .gtr 3 0 (.t 28) (.n 10) 3) 4 25 false,
 oo 30 (.pick (.t 25) (.c (.bool true)) (.t 29)),
 om 31 30,
 og 32 (.faddr 108 3 (.t 4) 3) 10 31 false,
 og 33 (.load 85 (some 3) (.t 32)) 10 31 false,
 ⟨(some 34),.call 64 [(false,(.t 33)),(false,(.n 300))] [85,3],(some (10,31,false))⟩,
 og 35 (.un .not 4 (.t 34)) 10 31 false,
 oo 36 (.pick (.t 31) (.c (.bool true)) (.t 35))]) (.cond (.t 36) (.seq (.reg [oo 2 (.asg (.c (.bool false)))]) .ret) .skip)))) (.reg [om 14 3,
 oo 15 (.bin .add 3 0 (.t 14) (.n 1) 3),
 oo 3 (.asg (.t 15))])))
def a5e:IC:=(.seq (.reg [oo 1 (.box 49 2 (.t 0)),
 oo 2 (.asg (.c (.bool false)))]) (.seq (.seq (.reg [oo 5 (.faddr 49 0 (.t 1) 0),
 oo 6 (.load 47 none (.t 5)),
 oo 7 (.len 47 false (.t 6)),
 oo 8 (.bin .gtr 3 0 (.t 7) (.n 70) 3)]) (.cond (.t 8) (.seq (.reg [oo 2 (.asg (.c (.bool false)))]) .ret) .skip)) (.seq (.seq (.reg [oo 3 (.asg (.n 0))]) (.block 0 (.loop a2o))) (.seq (.reg [oo 2 (.asg (.c (.bool true)))]) .ret))))
abbrev b27:Nat:=23
theorem b02:fnC pg 23 37 [(.tmp 2)] a5e:=a0s Go.Proofs.Tryz.f23 [(.tmp 2)] (by kernel_rfl)
def a7e:IC:=(.seq (.reg [oo 2 (.box 76 2 (.t 0)),
 oo 3 (.box 76 2 (.t 1)),
 oo 4 (.asg (.c (.bool false)))]) (.seq (.reg [oo 6 (.faddr 76 0 (.t 2) 0),
 oo 7 (.load 74 none (.t 6)),
 oo 8 (.faddr 76 0 (.t 3) 0),
 oo 9 (.load 74 none (.t 8)),
 oc 10 78 [(false,(.t 7)),(false,(.t 9))] [74,74],
 oo 5 (.asg (.t 10))]) (.seq (.reg [om 11 5,
 om 12 11,
 og 13 (.faddr 76 1 (.t 2) 1) 1 12 true,
 og 14 (.load 4 none (.t 13)) 1 12 true,
 og 15 (.faddr 76 1 (.t 3) 1) 1 12 true,
 og 16 (.load 4 none (.t 15)) 1 12 true,
 og 17 (.bin .eql 4 1 (.t 14) (.t 16) 4) 1 12 true,
 oo 18 (.pick (.t 12) (.t 17) (.c (.bool false))),
 oo 4 (.asg (.t 18))]) .ret)))
abbrev b2g:Nat:=45
theorem a94:fnC pg 45 19 [(.tmp 4)] a7e:=a0s Go.Proofs.Tryz.f45 [(.tmp 4)] (by kernel_rfl)
def a7g:IC:=(.seq (.reg [oo 2 (.box 85 3 (.t 0)),
 oo 4 (.asg (.c (.bool false)))]) (.seq (.reg [oo 5 (.faddr 85 0 (.t 2) 0),
 oo 6 (.load 76 (some 2) (.t 5)),
 oc 7 37 [(false,(.t 6))] [76],
 om 8 7,
 og 9 (.faddr 85 2 (.t 2) 1) 3 8 true,
 og 10 (.load 74 none (.t 9)) 3 8 true,
 og 11 (.len 74 false (.t 10)) 3 8 true,
 og 12 (.mv (.t 1)) 3 8 true,
 og 13 (.bin .leq 3 0 (.t 11) (.t 12) 3) 3 8 true,
 oo 14 (.pick (.t 8) (.t 13) (.c (.bool false))),
 oo 4 (.asg (.t 14))]) .ret))
abbrev b2j:Nat:=64
theorem a97:fnC pg 64 15 [(.tmp 4)] a7g:=a0s Go.Proofs.Tryz.f64 [(.tmp 4)] (by kernel_rfl)
def a5c:IC:=(.seq (.seq (.reg [om 21 4,
 oo 22 (.faddr 85 2 (.t 1) 1),
 oo 23 (.load 74 none (.t 22)),
 oo 24 (.len 74 false (.t 23)),
 oo 25 (.bin .lss 3 0 (.t 21) (.t 24) 3)]) (.cond (.t 25) .skip (.exit 0))) (.seq (.block 1 (.seq (.draw [oo 28 (.faddr 85 2 (.t 1) 1),
 oo 29 (.load 74 none (.t 28)),
 om 30 4,
 oo 31 (.iaddr 74 1 (.t 29) (.t 30)),
 oo 32 (.load 3 none (.t 31)),
 oo 33 (.faddr 85 0 (.t 1) 0),
 oo 34 (.faddr 76 1 (.t 33) 1),
 oo 35 (.load 4 none (.t 34)),
 oc 36 84 [(false,(.t 32)),(false,(.t 35))] [3,4],
 oo 37 (.un .not 4 (.t 36))] [[],[0],[],[1,2],[3],[],[5],[6],[4,7],[8]]) (.cond (.t 37) (.seq (.reg [om 38 4,
 oc 39 35 [(false,(.n 102)),(false,(.t 38))] [3,3],
 ov (.store 31 3 (.t 2) (.t 39))]) .ret) .skip))) (.reg [om 26 4,
 oo 27 (.bin .add 3 0 (.t 26) (.n 1) 3),
 oo 4 (.asg (.t 27))])))
def a8x:IC:=(.seq (.reg [oo 1 (.box 85 3 (.t 0)),
 oo 2 (.alloc 31 [.lit (.int .i64 0),.lit (.bool false),.lit (.int .i64 0)])]) (.seq (.reg [oo 5 (.faddr 85 0 (.t 1) 0),
 oo 6 (.load 76 (some 2) (.t 5)),
 oc 7 39 [(false,(.t 6))] [76],
 oo 3 (.asg (.t 7))]) (.seq (.seq (.reg [om 8 3,
 oo 9 (.bin .neq 3 0 (.t 8) (.n 0) 3)]) (.cond (.t 9) (.seq (.reg [om 10 3,
 oc 11 38 [(false,(.t 10))] [3],
 ov (.store 31 3 (.t 2) (.t 11))]) .ret) .skip)) (.seq (.seq (.draw [oo 12 (.faddr 85 2 (.t 1) 1),
 oo 13 (.load 74 none (.t 12)),
 oo 14 (.len 74 false (.t 13)),
 oo 15 (.faddr 85 0 (.t 1) 0),
 oo 16 (.faddr 76 0 (.t 15) 0),
 oo 17 (.load 74 none (.t 16)),
 oc 18 49 [(false,(.t 17))] [74],
 oo 19 (.bin .neq 3 0 (.t 14) (.t 18) 3)] [[],[0],[1],[],[3],[4],[5],[2,6]]) (.cond (.t 19) (.seq (.reg [oc 20 38 [(false,(.n 101))] [3],
 ov (.store 31 3 (.t 2) (.t 20))]) .ret) .skip)) (.seq (.seq (.reg [oo 4 (.asg (.n 0))]) (.block 0 (.loop a5c))) (.seq (.reg [oc 40 43 [] [],
 ov (.store 31 3 (.t 2) (.t 40))]) .ret))))))
abbrev b4o:Nat:=41
theorem b1u:fnC pg 41 41 [(.cells 2 3)] a8x:=a0s Go.Proofs.Tryz.f41 [(.cell 2 31)] (by kernel_rfl)
def a5y:IC:=(.seq (.reg [oo 1 (.box 76 2 (.t 0)),
 oo 2 (.asg (.c (.bool false)))]) (.seq (.reg [oo 3 (.faddr 76 0 (.t 1) 0),
 oo 4 (.load 74 none (.t 3)),
 oo 5 (.len 74 false (.t 4)),
 oo 6 (.bin .leq 3 0 (.t 5) (.n 8) 3),
 oo 2 (.asg (.t 6))]) .ret))
abbrev b4q:Nat:=37
theorem b1x:fnC pg 37 7 [(.tmp 2)] a5y:=a0s Go.Proofs.Tryz.f37 [(.tmp 2)] (by kernel_rfl)
def a1p:IC:=(.seq (.seq (.reg [om 9 4,
 oo 10 (.faddr 76 0 (.t 1) 0),
 oo 11 (.load 74 none (.t 10)),
 oo 12 (.len 74 false (.t 11)),
 oo 13 (.bin .lss 3 0 (.t 9) (.t 12) 3)]) (.cond (.t 13) .skip (.exit 0))) (.seq (.block 1 (.seq (.seq (.reg [oo 16 (.faddr 76 0 (.t 1) 0),
 oo 17 (.load 74 none (.t 16)),
 om 18 4,
 oo 19 (.iaddr 74 1 (.t 17) (.t 18)),
 oo 20 (.load 3 none (.t 19)),
 oo 21 (.bin .lss 3 0 (.t 20) (.n 1) 3),
 om 22 21,
 og 23 (.faddr 76 0 (.t 1) 0) 6 22 false,
 og 24 (.load 74 none (.t 23)) 6 22 false,
 og 25 (.mv (.t 4)) 6 22 false,
 og 26 (.iaddr 74 1 (.t 24) (.t 25)) 6 22 false,
 og 27 (.load 3 none (.t 26)) 6 22 false,
 og 28 (.bin .gtr 3 0 (.t 27) (.n 256) 3) 6 22 false,
 oo 29 (.pick (.t 22) (.c (.bool true)) (.t 28))]) (.cond (.t 29) (.seq (.reg [oo 2 (.asg (.n 102))]) .ret) .skip)) (.reg [om 30 3,
 oo 31 (.faddr 76 0 (.t 1) 0),
 oo 32 (.load 74 none (.t 31)),
 om 33 4,
 oo 34 (.iaddr 74 1 (.t 32) (.t 33)),
 oo 35 (.load 3 none (.t 34)),
 oo 36 (.bin .mul 3 0 (.t 30) (.t 35) 3),
 oo 3 (.asg (.t 36))]))) (.reg [om 14 4,
 oo 15 (.bin .add 3 0 (.t 14) (.n 1) 3),
 oo 4 (.asg (.t 15))])))
def a32:IC:=(.seq (.reg [oo 1 (.box 76 2 (.t 0)),
 oo 2 (.asg (.n 0))]) (.seq (.seq (.reg [oo 5 (.faddr 76 0 (.t 1) 0),
 oo 6 (.load 74 none (.t 5)),
 oo 7 (.len 74 false (.t 6)),
 oo 8 (.bin .gtr 3 0 (.t 7) (.n 4) 3)]) (.cond (.t 8) (.seq (.reg [oo 2 (.asg (.n 104))]) .ret) .skip)) (.seq (.reg [oo 3 (.asg (.n 1))]) (.seq (.seq (.reg [oo 4 (.asg (.n 0))]) (.block 0 (.loop a1p))) (.seq (.seq (.reg [om 37 3,
 oo 38 (.bin .gtr 3 0 (.t 37) (.n 16384) 3)]) (.cond (.t 38) (.seq (.reg [oo 2 (.asg (.n 104))]) .ret) .skip)) (.seq (.reg [oo 2 (.asg (.n 0))]) .ret))))))
abbrev b0d:Nat:=39
theorem a8w:fnC pg 39 39 [(.tmp 2)] a32:=a0s Go.Proofs.Tryz.f39 [(.tmp 2)] (by kernel_rfl)
def a5b:IC:=(.seq (.seq (.reg [om 9 4,
 om 10 0,
 oo 11 (.len 74 false (.t 10)),
 oo 12 (.bin .lss 3 0 (.t 9) (.t 11) 3)]) (.cond (.t 12) .skip (.exit 0))) (.seq (.block 1 (.reg [om 15 3,
 om 16 0,
 om 17 4,
 oo 18 (.iaddr 74 1 (.t 16) (.t 17)),
 oo 19 (.load 3 none (.t 18)),
 oo 20 (.bin .mul 3 0 (.t 15) (.t 19) 3),
 oo 3 (.asg (.t 20))])) (.reg [om 13 4,
 oo 14 (.bin .add 3 0 (.t 13) (.n 1) 3),
 oo 4 (.asg (.t 14))])))
def a8t:IC:=(.seq (.reg [oo 2 (.asg (.n 0))]) (.seq (.seq (.reg [om 5 0,
 oo 6 (.build 76 [.own 1 0 [],.lit (.bool false)] [(0,0,1,(.t 5))]),
 oc 7 39 [(false,(.t 6))] [76],
 oo 8 (.bin .neq 3 0 (.t 7) (.n 0) 3)]) (.cond (.t 8) (.seq (.reg [oo 2 (.asg (.n 0))]) .ret) .skip)) (.seq (.reg [oo 3 (.asg (.n 1))]) (.seq (.seq (.reg [oo 4 (.asg (.n 0))]) (.block 0 (.loop a5b))) (.seq (.reg [om 21 3,
 oo 2 (.asg (.t 21))]) .ret)))))
abbrev b4n:Nat:=49
theorem b1s:fnC pg 49 22 [(.tmp 2)] a8t:=a0s Go.Proofs.Tryz.f49 [(.tmp 2)] (by kernel_rfl)
def a76:IC:=(.seq (.reg [oo 4 (.asg (.c (.bool false)))]) (.seq (.seq (.reg [om 5 1]) (.cond (.t 5) (.seq (.reg [om 6 0,
 oo 7 (.bin .geq 3 0 (.t 6) (.n (-2147483648)) 3),
 om 8 7,
 og 9 (.mv (.t 0)) 2 8 true,
 og 10 (.bin .leq 3 0 (.t 9) (.n 2147483647) 3) 2 8 true,
 oo 11 (.pick (.t 8) (.t 10) (.c (.bool false))),
 oo 4 (.asg (.t 11))]) .ret) .skip)) (.seq (.reg [om 12 0,
 oo 13 (.bin .geq 3 0 (.t 12) (.n (-128)) 3),
 om 14 13,
 og 15 (.mv (.t 0)) 2 14 true,
 og 16 (.bin .leq 3 0 (.t 15) (.n 127) 3) 2 14 true,
 oo 17 (.pick (.t 14) (.t 16) (.c (.bool false))),
 oo 4 (.asg (.t 17))]) .ret)))
abbrev b8o:Nat:=84
theorem b41:fnC pg 84 18 [(.tmp 4)] a76:=a0s Go.Proofs.Tryz.f84 [(.tmp 4)] (by kernel_rfl)
def b0y:IC:=(.seq (.reg [oo 1 (.box 76 2 (.t 0)),
 oo 2 (.alloc 76 [.own 1 0 [],.lit (.bool false)])]) (.seq (.draw [oo 3 (.faddr 76 0 (.t 1) 0),
 oo 4 (.load 74 none (.t 3)),
 oc 5 93 [(false,(.t 4))] [74],
 oo 6 (.faddr 76 1 (.t 1) 1),
 oo 7 (.load 4 none (.t 6)),
 oo 8 (.build 76 [.own 1 0 [],.lit (.bool false)] [(0,0,1,(.t 5)),(1,1,1,(.t 7))]),
 ov (.store 76 2 (.t 2) (.t 8))] [[],[0],[1],[],[3],[2,4],[5,2,0,1,2,3,4,5]]) .ret))
abbrev b0e:Nat:=102
theorem b3q:fnC pg 102 9 [(.cells 2 2)] b0y:=a0s Go.Proofs.Tryz.f102 [(.cell 2 76)] (by kernel_rfl)
def a3x (k:Int):Bool:=decide (1<=k/\k<=256)
def a45:List Int->Int->Int
 | [],n=>n
 | k::ks,n=>a45 ks (n*k)
def a01 (sh:List Int):Er:=if 4 < sh.length then .s 2 else if sh.all a3x=true then (if 16384 < a45 sh 1 then .s 2 else .nil) else .s 3
def c02 (sh:List Int):Bool:=decide (sh.length<=4)&&sh.all a3x&&decide (a45 sh 1<=16384)
def a3q (sh:List Int):Int:=if c02 sh=true then a45 sh 1 else 0
theorem b3z:∀ {ks:List Int} {n:Int},ks.all a3x=true->0<=n->n<=a45 ks n
 | [],n,_,_=>Int.le_refl _
 | k::ks,n,h,hn=>by
  simp only [List.all_cons,Bool.and_eq_true] at h
  obtain ⟨ha,hb⟩:=h
  simp only [a3x,decide_eq_true_eq] at ha
  have h1:n*1<=n*k:=Int.mul_le_mul_of_nonneg_left ha.1 hn
  exact Int.le_trans (b:=n*k) (by omega) (b3z (ks:=ks) (n:=n*k) hb (by omega))
theorem a52 {sh:List Int}:a01 sh= .nil↔c02 sh=true:=by
 unfold a01 c02
 by_cases h1:4 < sh.length
 ·have:¬ sh.length<=4:=by omega
  simp [h1,this]
 ·have h1':sh.length<=4:=by omega
  by_cases h2:sh.all a3x=true
  ·by_cases h3:16384 < a45 sh 1
   ·have:¬ a45 sh 1<=16384:=by omega
    simp [h1,h2,h3,this]
   ·have:a45 sh 1<=16384:=by omega
    simp [h1,h1',h2,h3,this]
  ·simp [h1,h2]
theorem a2m (sh:List Int):a01 sh= .nil\/a01 sh= .s 2\/a01 sh= .s 3:=by
 unfold a01
 split
 ·simp
 ·split
  ·split<;>simp
  ·simp
@[go_sem] theorem a0z {bk:Nat->Nat×Nat} (e:Er):a0p (a05 bk e)=true:=(c82 e).1
@[go_sem] theorem d88 {bk:Nat->Nat×Nat} (e:Er):a04 (a05 bk e)=true:=(c82 e).2
section
variable {G:GG} {bk:Nat->Nat×Nat} {Q:Exit->St->Prop} {st:St}
theorem d4b (hS:Sent3 G bk) {sh:List Int} {w:Bool} (hl:sh.length<=4) (h:st.s 1= .var [slI sh,lb w]/\st.s 14=slI sh/\st.s 15=li sh.length/\st.s 16=li 0/\st.s 3=li 1)
  (hex:sh.all a3x=true->∀ s,s.s 1= .var [slI sh,lb w]/\s.s 3=li 1->Q (.exit 0) s) (hret:sh.all a3x=false->∀ s,s.s 2=sv bk 3->Q .ret s):AW pg G 42 (.loop a3p) Q st:=by
 refine a0u Nat (fun i st=>i<=sh.length/\(sh.drop i).all a3x=sh.all a3x/\st.s 1= .var [slI sh,lb w]/\st.s 14=slI sh/\st.s 15=li sh.length/\st.s 16=li i/\st.s 3=li 1) (fun i=>sh.length - i) 0 ⟨by simp,rfl,h⟩ ?_
 clear h
 rintro i st K ⟨hi,hm,h⟩ hK
 by_cases hlt:i < sh.length
 ·rw [List.drop_eq_getElem_cons hlt,List.all_cons] at hm
  by_cases k1:sh[i] < 1
  ·have d:a3x sh[i]=false:=by simp [a3x]; omega
   rw [d] at hm
   simp (disch:=omega) [go_sem,a3p,h,hlt,k1,hS.val]
   exact hret hm.symm _ (by simp (disch:=omega) [go_sem])
  ·by_cases k2:256 < sh[i]
   ·have d:a3x sh[i]=false:=by simp [a3x]; omega
    rw [d] at hm
    simp (disch:=omega) [go_sem,a3p,h,hlt,k1,k2,hS.val]
    exact hret hm.symm _ (by simp (disch:=omega) [go_sem])
   ·have d:a3x sh[i]=true:=by simp [a3x]; omega
    rw [d] at hm
    simp (disch:=omega) [go_sem,a3p,h,hlt,k1,k2,hS.val]
    exact hK (i+1) _ ⟨by omega,hm,by simp (disch:=omega) [go_sem,h]⟩ (by omega)
 ·obtain rfl:i=sh.length:=by omega
  rw [List.drop_length] at hm
  simp (disch:=omega) [go_sem,a3p,h]
  exact hex hm.symm _ (by simp (disch:=omega) [go_sem,h])
theorem d4c (hS:Sent3 G bk) {sh:List Int} (hl:sh.length<=4) (hd:sh.all a3x=true) (h:st.s 29=slI sh/\st.s 30=li sh.length/\st.s 31=li 0/\st.s 3=li 1)
  (hex:a45 sh 1<=16384->∀ s,Q (.exit 2) s) (hret:16384 < a45 sh 1->∀ s,s.s 2=sv bk 2->Q .ret s):AW pg G 42 (.loop a4o) Q st:=by
 refine a0u (Nat×Int) (fun p st=>p.1<=sh.length/\a45 (sh.drop p.1) p.2=a45 sh 1/\1<=p.2/\p.2<=16384/\(sh.drop p.1).all a3x=true/\st.s 29=slI sh/\st.s 30=li sh.length/\st.s 31=li p.1/\st.s 3=li p.2) (fun p=>sh.length - p.1) (0,1) ⟨by simp,rfl,by simp,by simp,by simpa using hd,h⟩ ?_
 clear h
 rintro ⟨i,n⟩ st K ⟨hi,hm,hn1,hn2,ha,h⟩ hK
 simp only at hi hm hn1 hn2 ha h
 by_cases hlt:i < sh.length
 ·rw [List.drop_eq_getElem_cons hlt] at hm ha
  simp only [List.all_cons,Bool.and_eq_true] at ha
  have hd1:=ha.1
  simp only [a3x,decide_eq_true_eq] at hd1
  simp only [a45] at hm
  have b1:n*1<=n*sh[i]:=Int.mul_le_mul_of_nonneg_left hd1.1 (by omega)
  have b2:n*sh[i]<=16384*256:=Int.mul_le_mul hn2 hd1.2 (by omega) (by omega)
  by_cases k:16384 < n*sh[i]
  ·have g:=b3z ha.2 (show 0<=n*sh[i] by omega)
   simp (disch:=omega) [go_sem,a4o,h,hlt,k,hS.val]
   exact hret (by omega) _ (by simp (disch:=omega) [go_sem])
  ·simp (disch:=omega) [go_sem,a4o,h,hlt,k,hS.val]
   exact hK (i+1,n*sh[i]) _ ⟨by simp only; omega,hm,by simp only; omega,by simp only; omega,ha.2,by simp (disch:=omega) [go_sem,h]⟩ (by simp only; omega)
 ·obtain rfl:i=sh.length:=by omega
  rw [List.drop_length,a45] at hm
  simp (disch:=omega) [go_sem,a4o,h]
  exact hex (by omega) _
theorem a1d (hS:Sent3 G bk) (sh:List Int) (w:Bool) (hlen:sh.length < 2 ^ 62):ACalls pg G b91 [.agg [slI sh,lb w]] (a05 bk (a01 sh)):=by
 refine b6d rfl ?_
 by_cases h4:4 < sh.length
 ·have h4':(4:Int) < sh.length:=by omega
  simp (disch:=omega) [go_sem,a9p,h4',a01,h4,hS.val,a05]
 ·have h4':¬ (4:Int) < sh.length:=by omega
  simp (disch:=omega) [go_sem,a9p,h4',hS.val]
  refine d4b (sh:=sh) (w:=w) hS (by omega) (by simp (disch:=omega) [go_sem]) (fun hd s h=> ?_) (fun hd s h=>by simp (disch:=omega) [go_sem,h,a01,h4,hd,a05])
  simp (disch:=omega) [go_sem,h]
  refine d4c (sh:=sh) hS (by omega) hd (by simp (disch:=omega) [go_sem,h]) (fun hp s=> ?_) (fun hp s h=>by simp (disch:=omega) [go_sem,h,a01,h4,hd,hp,a05])
  have hp':¬ 16384 < a45 sh 1:=by omega
  simp (disch:=omega) [go_sem,a01,h4,hd,hp',a05]
theorem d54 (hS:Sent3 G bk) (sh:List Int) (hlen:sh.length < 2 ^ 62):ACalls pg G c1o [slI sh] (lb (c02 sh)):=by
 refine b77 rfl ?_
 simp (disch:=omega) [go_sem,b5z]
 have hv:=a1d (G:=G) hS sh false hlen
 rcases a2m sh with e | e | e<;>rw [e] at hv<;>simp only [a05] at hv
 ·refine a0c hv rfl rfl ?_
  simp (disch:=omega) [go_sem,a52.1 e]
 all_goals
  have n:c02 sh=false:=by
   cases hh:c02 sh
   ·rfl
   ·rw [a52.2 hh] at e; cases e
  refine a0c hv rfl rfl ?_
  simp (disch:=omega) [go_sem,n]
theorem b6h (hS:Sent3 G bk) (sh:List Int) (hlen:sh.length < 2 ^ 62):ACalls pg G b90 [slI sh] (li (a3q sh)):=by
 refine b6c rfl ?_
 simp (disch:=omega) [go_sem,b4f]
 refine a0c (d54 hS sh hlen) rfl rfl ?_
 cases hok:c02 sh with
 | false=>simp (disch:=omega) [go_sem,hok,a3q]
 | true=>
  simp (disch:=omega) [go_sem,hok,a3q]
  simp only [c02,Bool.and_eq_true,decide_eq_true_eq] at hok
  refine a0u (Nat×Int) (fun p st=>p.1<=sh.length/\a45 (sh.drop p.1) p.2=a45 sh 1/\1<=p.2/\(sh.drop p.1).all a3x=true/\st.s 9=slI sh/\st.s 10=li sh.length/\st.s 11=li p.1/\st.s 3=li p.2) (fun p=>sh.length - p.1) (0,1) ⟨by simp,rfl,by simp,by simpa using hok.1.2,by simp (disch:=omega) [go_sem]⟩ ?_
  rintro ⟨i,n⟩ st K ⟨hi,hm,hn1,ha,h⟩ hK
  simp only at hi hm hn1 ha h
  by_cases hlt:i < sh.length
  ·rw [List.drop_eq_getElem_cons hlt] at hm ha
   simp only [List.all_cons,Bool.and_eq_true] at ha
   have hd1:=ha.1
   simp only [a3x,decide_eq_true_eq] at hd1
   simp only [a45] at hm
   have b1:n*1<=n*sh[i]:=Int.mul_le_mul_of_nonneg_left hd1.1 (by omega)
   have g:=b3z ha.2 (show 0<=n*sh[i] by omega)
   simp (disch:=omega) [go_sem,a8c,h,hlt]
   exact hK (i+1,n*sh[i]) _ ⟨by simp only; omega,hm,by simp only; omega,ha.2,by simp (disch:=omega) [go_sem,h]⟩ (by simp only; omega)
  ·obtain rfl:i=sh.length:=by omega
   rw [List.drop_length,a45] at hm
   simp (disch:=omega) [go_sem,a8c,h,hm]
def a27 (sh:List Int) (w:Bool):Int:=if w=true then 4*a3q sh else a3q sh
theorem a5x (sh:List Int):0<=a3q sh/\a3q sh<=16384:=by
 unfold a3q
 split
 ·rename_i h
  simp only [c02,Bool.and_eq_true,decide_eq_true_eq] at h
  have:=b3z (n:=1) h.1.2 (by omega)
  omega
 ·omega
theorem d1t (hS:Sent3 G bk) (sh:List Int) (w:Bool) (hlen:sh.length < 2 ^ 62):ACalls pg G b9y [.agg [slI sh,lb w]] (li (a27 sh w)):=by
 refine b6a rfl ?_
 have hr:=a5x sh
 cases w<;>simp (disch:=omega) [go_sem,b4d]<;>refine a0c (b6h hS sh hlen) rfl rfl ?_<;>simp (disch:=omega) [go_sem,a27]
def b4w (n:Int) (w:Bool):Bool:=if w=true then decide (-2147483648<=n/\n<=2147483647) else decide (-128<=n/\n<=127)
theorem d57 (n:Int) (w:Bool):ACalls pg G c3x [li n,lb w] (lb (b4w n w)):=by
 refine b8w rfl ?_
 cases w
 ·by_cases h1: -128<=n<;>by_cases h2:n<=127<;>simp (disch:=omega) [go_sem,b23,b4w,h1,h2]
 ·by_cases h1: -2147483648<=n<;>by_cases h2:n<=2147483647<;>simp (disch:=omega) [go_sem,b23,b4w,h1,h2]
def a36 (w:Bool):List Int->Nat->Option Nat
 | [],_=>none
 | n::ns,i=>if b4w n w=true then a36 w ns (i+1) else some i
def c3f:Option Nat->Er
 | none=> .nil
 | some i=> .at i (.s 3)
def a7m (sh:List Int) (w:Bool) (data:List Int):Er:=if c02 sh=true then (if (data.length:Int)=a3q sh then c3f (a36 w data 0) else .s 6) else a01 sh
abbrev f2w (sh:List Int) (w:Bool) (data:List Int):AV:= .agg [slI sh,lb w,slI data]
theorem d1c (hS:Sent3 G bk) {sh:List Int} {w:Bool} {data:List Int} (hl:data.length < 2 ^ 62) (h:st.s 1= .var [slI sh,lb w,slI data]/\st.s 22=slI data/\st.s 23=li data.length/\st.s 24=li 0)
  (hex:a36 w data 0=none->∀ s,Q (.exit 0) s) (hret:∀ i,a36 w data 0=some i->∀ s,s.s 2=a05 bk (.at i (.s 3))->Q .ret s):AW pg G 41 (.loop a63) Q st:=by
 refine a0u Nat (fun i st=>i<=data.length/\a36 w (data.drop i) i=a36 w data 0/\st.s 1= .var [slI sh,lb w,slI data]/\st.s 22=slI data/\st.s 23=li data.length/\st.s 24=li i) (fun i=>data.length - i) 0 ⟨by simp,rfl,h⟩ ?_
 clear h
 rintro i st K ⟨hi,hm,h⟩ hK
 by_cases hlt:i < data.length
 ·rw [List.drop_eq_getElem_cons hlt,a36] at hm
  simp (disch:=omega) [go_sem,a63,h,hlt]
  refine a0c (d57 data[i] w) rfl rfl ?_
  cases hf:b4w data[i] w with
  | true=>
   rw [if_pos hf] at hm
   simp (disch:=omega) [go_sem,h,hf]
   exact hK (i+1) _ ⟨by omega,hm,by simp (disch:=omega) [go_sem,h]⟩ (by omega)
  | false=>
   rw [if_neg (by simp [hf])] at hm
   simp (disch:=omega) [go_sem,h,hf,hS.val]
   exact hret i hm.symm _ (by simp (disch:=omega) [go_sem,a05])
 ·obtain rfl:i=data.length:=by omega
  rw [List.drop_length,a36] at hm
  simp (disch:=omega) [go_sem,a63,h]
  exact hex hm.symm _
theorem d1b (hS:Sent3 G bk) (sh:List Int) (w:Bool) (data:List Int) (hlen:sh.length < 2 ^ 62) (hl:data.length < 2 ^ 62):ACalls pg G c1p [f2w sh w data] (a05 bk (a7m sh w data)):=by
 refine b8c rfl ?_
 simp (disch:=omega) [go_sem,b50]
 have hv:=a1d (G:=G) hS sh w hlen
 rcases a2m sh with e | e | e
 ·have ok:=a52.1 e
  rw [e] at hv
  simp only [a05] at hv
  refine a0c hv rfl rfl ?_
  simp (disch:=omega) [go_sem]
  refine a0b ?_
  simp (disch:=omega) [go_sem]
  refine a0m (b6h hS sh hlen) rfl rfl (by simp) [18] (by simp) (by simp (disch:=omega) [go_sem]) ?_
  simp (disch:=omega) [go_sem]
  refine a0d (by decide) fun s2 hs he=> ?_
  by_cases hn:(data.length:Int)=a3q sh
  ·simp (disch:=omega) [go_sem,hs,hn]
   refine d1c (sh:=sh) (w:=w) (data:=data) hS hl (by simp (disch:=omega) [go_sem,hs,hn]) (fun hf s=> ?_) (fun i hf s h=> ?_)
   ·simp (disch:=omega) [go_sem,a7m,ok,hn,hf,c3f,a05]
   ·simp (disch:=omega) [go_sem,a7m,ok,hn,hf,c3f,h]
  ·simp (disch:=omega) [go_sem,hs,hn,hS.val,a7m,ok,a05]
 all_goals
  have ok:c02 sh=false:=by
   cases hh:c02 sh
   ·rfl
   ·rw [a52.2 hh] at e; cases e
  rw [e] at hv
  simp only [a05] at hv
  refine a0c hv rfl rfl ?_
  simp (disch:=omega) [go_sem,a7m,ok,e,a05]
theorem d2z (n:Int) (w:Bool):ACalls pg G b8o [li n,lb w] (lb (b4w n w)):=by
 refine b41 rfl ?_
 cases w
 ·by_cases h1: -128<=n<;>by_cases h2:n<=127<;>simp (disch:=omega) [go_sem,a76,b4w,h1,h2]
 ·by_cases h1: -2147483648<=n<;>by_cases h2:n<=2147483647<;>simp (disch:=omega) [go_sem,a76,b4w,h1,h2]
def a9u (sh:List Int):Int:=(a01 sh).flt.1
theorem a62 (sh:List Int) (w:Bool) (hlen:sh.length < 2 ^ 62):ACalls pg G b0d [.agg [slI sh,lb w]] (li (a9u sh)):=by
 refine a8w rfl ?_
 have c2:(Er.s 2).flt.1=104:=by decide
 have c3:(Er.s 3).flt.1=102:=by decide
 have c0:Er.nil.flt.1=0:=rfl
 by_cases h4:4 < sh.length
 ·have h4':(4:Int) < sh.length:=by omega
  simp (disch:=omega) [go_sem,a32,h4',a9u,a01,h4,c2]
 ·have h4':¬ (4:Int) < sh.length:=by omega
  simp (disch:=omega) [go_sem,a32,h4']
  refine a0u (Nat×Int) (fun p st=>p.1<=sh.length/\(sh.drop p.1).all a3x=sh.all a3x/\a45 (sh.drop p.1) p.2=a45 sh 1/\1<=p.2/\p.2<=256 ^ p.1/\st.s 1= .var [slI sh,lb w]/\st.s 3=li p.2/\st.s 4=li p.1) (fun p=>sh.length - p.1) (0,1) ⟨by simp,rfl,rfl,by simp,by simp,by simp (disch:=omega) [go_sem]⟩ ?_
  rintro ⟨i,n⟩ st K ⟨hi,ha,hm,hn1,hn2,h⟩ hK
  simp only at hi ha hm hn1 hn2 h
  by_cases hlt:i < sh.length
  ·rw [List.drop_eq_getElem_cons hlt] at hm ha
   rw [List.all_cons] at ha
   simp only [a45] at hm
   by_cases k1:sh[i] < 1
   ·have d:a3x sh[i]=false:=by simp [a3x]; omega
    rw [d] at ha
    have ha':sh.all a3x=false:=ha.symm
    simp (disch:=omega) [go_sem,a1p,h,hlt,k1,a9u,a01,h4,ha',c3]
   ·by_cases k2:256 < sh[i]
    ·have d:a3x sh[i]=false:=by simp [a3x]; omega
     rw [d] at ha
     have ha':sh.all a3x=false:=ha.symm
     simp (disch:=omega) [go_sem,a1p,h,hlt,k1,k2,a9u,a01,h4,ha',c3]
    ·have d:a3x sh[i]=true:=by simp [a3x]; omega
     rw [d] at ha
     have b1:n*1<=n*sh[i]:=Int.mul_le_mul_of_nonneg_left (by omega) (by omega)
     have b2:n*sh[i]<=256 ^ i*256:=Int.mul_le_mul hn2 (by omega) (by omega) (by omega)
     have b3:(256:Int) ^ i*256<=4294967296:=by
      have:i=0\/i=1\/i=2\/i=3:=by omega
      rcases this with rfl | rfl | rfl | rfl<;>decide
     simp (disch:=omega) [go_sem,a1p,h,hlt,k1,k2]
     exact hK (i+1,n*sh[i]) _ ⟨by simp only; omega,ha,hm,by simp only; omega,by simp only; rw [Int.pow_succ]; exact b2,by simp (disch:=omega) [go_sem,h]⟩ (by simp only; omega)
  ·obtain rfl:i=sh.length:=by omega
   rw [List.drop_length] at hm ha
   rw [a45] at hm
   have ha':sh.all a3x=true:=ha.symm
   subst hm
   by_cases k:16384 < a45 sh 1
   ·simp (disch:=omega) [go_sem,a1p,h,k,a9u,a01,h4,ha',c2]
   ·simp (disch:=omega) [go_sem,a1p,h,k,a9u,a01,h4,ha',c0]
theorem b3j {sh:List Int}:a9u sh=0↔c02 sh=true:=by
 rw [<-a52]
 unfold a9u
 rcases a2m sh with e | e | e<;>rw [e]
 ·simp [Er.flt]
 ·exact ⟨fun h=>absurd h (by decide),fun h=>by cases h⟩
 ·exact ⟨fun h=>absurd h (by decide),fun h=>by cases h⟩
theorem b33 (sh:List Int) (hlen:sh.length < 2 ^ 62):ACalls pg G b4n [slI sh] (li (a3q sh)):=by
 refine b1s rfl ?_
 simp (disch:=omega) [go_sem,a8t]
 refine a0c (a62 sh false hlen) rfl rfl ?_
 by_cases hok:c02 sh=true
 ·have hc:=b3j.2 hok
  simp (disch:=omega) [go_sem,hc]
  have hok0:=hok
  simp only [c02,Bool.and_eq_true,decide_eq_true_eq] at hok
  refine a0u (Nat×Int) (fun p st=>p.1<=sh.length/\a45 (sh.drop p.1) p.2=a45 sh 1/\1<=p.2/\(sh.drop p.1).all a3x=true/\st.s 0=slI sh/\st.s 3=li p.2/\st.s 4=li p.1) (fun p=>sh.length - p.1) (0,1) ⟨by simp,rfl,by simp,by simpa using hok.1.2,by simp (disch:=omega) [go_sem]⟩ ?_
  rintro ⟨i,n⟩ st K ⟨hi,hm,hn1,ha,h⟩ hK
  simp only at hi hm hn1 ha h
  by_cases hlt:i < sh.length
  ·rw [List.drop_eq_getElem_cons hlt] at hm ha
   simp only [List.all_cons,Bool.and_eq_true] at ha
   have hd1:=ha.1
   simp only [a3x,decide_eq_true_eq] at hd1
   simp only [a45] at hm
   have b1:n*1<=n*sh[i]:=Int.mul_le_mul_of_nonneg_left hd1.1 (by omega)
   have g:=b3z ha.2 (show 0<=n*sh[i] by omega)
   simp (disch:=omega) [go_sem,a5b,h,hlt]
   exact hK (i+1,n*sh[i]) _ ⟨by simp only; omega,hm,by simp only; omega,ha.2,by simp (disch:=omega) [go_sem,h]⟩ (by simp only; omega)
  ·obtain rfl:i=sh.length:=by omega
   rw [List.drop_length,a45] at hm
   simp (disch:=omega) [go_sem,a5b,h,hm,a3q,hok0]
 ·have hc:¬ a9u sh=0:=fun hc=>hok (b3j.1 hc)
  simp (disch:=omega) [go_sem,hc,a3q,hok]
theorem d32 (sh:List Int) (w:Bool) (data:List Int) (hlen:sh.length < 2 ^ 62) (hl:data.length < 2 ^ 62):ACalls pg G b4o [f2w sh w data] (fl (a7m sh w data).flt):=by
 refine b1u rfl ?_
 simp (disch:=omega) [go_sem,a8x]
 refine a0c (a62 sh w hlen) rfl rfl ?_
 by_cases ok:c02 sh=true
 ·have hc:=b3j.2 ok
  simp (disch:=omega) [go_sem,hc]
  refine a0b ?_
  simp (disch:=omega) [go_sem]
  refine a0m (b33 sh hlen) rfl rfl (by simp) [18] (by simp) (by simp (disch:=omega) [go_sem]) ?_
  simp (disch:=omega) [go_sem]
  refine a0d (by decide) fun s2 hs he=> ?_
  by_cases hn:(data.length:Int)=a3q sh
  ·simp (disch:=omega) [go_sem,hs,hn]
   refine a0u Nat (fun i st=>i<=data.length/\a36 w (data.drop i) i=a36 w data 0/\st.s 1= .var [slI sh,lb w,slI data]/\st.s 2= .var [li 0,lb false,li 0]/\st.s 4=li i) (fun i=>data.length - i) 0 ⟨by simp,rfl,by simp (disch:=omega) [go_sem,hs]⟩ ?_
   rintro i st K ⟨hi,hm,h⟩ hK
   by_cases hlt:i < data.length
   ·rw [List.drop_eq_getElem_cons hlt,a36] at hm
    simp (disch:=omega) [go_sem,a5c,h,hlt]
    refine a0b ?_
    simp (disch:=omega) [go_sem,h,hlt]
    refine a0m (d2z data[i] w) rfl rfl (by simp) [36] (by simp) (by simp (disch:=omega) [go_sem,h]) ?_
    simp (disch:=omega) [go_sem,h]
    refine a0d (by decide) fun s3 hs3 he3=> ?_
    cases hf:b4w data[i] w with
    | true=>
     rw [if_pos hf] at hm
     simp (disch:=omega) [go_sem,hs3,h,hf]
     exact hK (i+1) _ ⟨by omega,hm,by simp (disch:=omega) [go_sem,hs3,h]⟩ (by omega)
    | false=>
     rw [if_neg (by simp [hf])] at hm
     simp (disch:=omega) [go_sem,hs3,h,hf]
     refine a0c (b1i G 102 i) (by rfl) (by rfl) ?_
     simp (disch:=omega) [go_sem,hs3,h]
     simp [a7m,ok,hn,<-hm,c3f,Er.flt]
     decide
   ·obtain rfl:i=data.length:=by omega
    rw [List.drop_length,a36] at hm
    simp (disch:=omega) [go_sem,a5c,h]
    refine a0c (b7r G) rfl rfl ?_
    simp (disch:=omega) [go_sem,h,a7m,ok,hn,<-hm,c3f,Er.flt]
  ·simp (disch:=omega) [go_sem,hs,hn]
   refine a0c (b6z 101) rfl rfl ?_
   simp (disch:=omega) [go_sem,hs,a7m,ok,hn,Er.flt]
   decide
 ·have hc:¬ a9u sh=0:=fun hc=>ok (b3j.1 hc)
  simp (disch:=omega) [go_sem,hc]
  refine a0c (b6z _) rfl rfl ?_
  simp (disch:=omega) [go_sem,a7m,ok,a9u]
  rcases a2m sh with e | e | e<;>simp [e,Er.flt]
end
structure Gr where
 nodes:List Nd
 out:Int
abbrev slN (ns:List Nd):AV:= .sl ns.length (fm a5q ns)
abbrev d1i (g:Gr):AV:= .agg [slN g.nodes,li g.out]
def c68 (n:Nd):List AV:=[li n.op,owI n.ins,owI n.args,owI n.shape,lb n.wide,owI n.data]
@[go_sem] theorem d19 {xs:List Nd}:(fm c68 xs).length=xs.length*6:=c2h fun _=>rfl
@[go_sem] theorem c83 {xs:List Nd}:(fm c68 xs).take (xs.length*6)=fm c68 xs:=c0g fun _=>rfl
@[go_sem] theorem d18 {xs:List Nd}:a2z (fm c68 xs)=fm a5q xs:=by
 rw [c9c]
 congr 1
 funext n
 simp [c68,a5q,go_sem]
theorem b3u (xs:List Int):a1l (owI xs)=true:=by simp only [a1l]; exact a28 xs
section
variable {G:GG} {bk:Nat->Nat×Nat} {Q:Exit->St->Prop} {st:St}
theorem d75 (sh:List Int) (w:Bool) (hlen:sh.length < 2 ^ 62):ACalls pg G b4q [.agg [slI sh,lb w]] (lb (decide (sh.length<=8))):=by
 refine b1x rfl ?_
 by_cases h:sh.length<=8
 ·have h':(sh.length:Int)<=8:=by omega
  simp (disch:=omega) [go_sem,a5y,h,h']
 ·have h':¬ (sh.length:Int)<=8:=by omega
  simp (disch:=omega) [go_sem,a5y,h,h']
theorem d76 (sh:List Int) (w:Bool) (data:List Int) (m:Nat) (hlen:sh.length < 2 ^ 62):ACalls pg G b2j [f2w sh w data,li m] (lb (decide (sh.length<=8)&&decide (data.length<=m))):=by
 refine a97 rfl ?_
 simp (disch:=omega) [go_sem,a7g]
 refine a0c (d75 sh w hlen) rfl rfl ?_
 by_cases h:sh.length<=8
 ·by_cases h2:data.length<=m
  ·have h2':(data.length:Int)<=m:=by omega
   simp (disch:=omega) [go_sem,h,h2,h2']
  ·have h2':¬ (data.length:Int)<=m:=by omega
   simp (disch:=omega) [go_sem,h,h2,h2']
 ·simp (disch:=omega) [go_sem,h]
def a6u (n:Nd):Bool:=decide (n.ins.length<=10)&&decide (n.args.length<=10)&&(decide (n.shape.length<=8)&&decide (n.data.length<=300))
def b51 (g:Gr):Bool:=decide (g.nodes.length<=70)&&g.nodes.all a6u
structure Nd.fin (n:Nd):Prop where
 ins:n.ins.length < 2 ^ 62
 args:n.args.length < 2 ^ 62
 shape:n.shape.length < 2 ^ 62
 data:n.data.length < 2 ^ 62
theorem d4d (g:Gr) (hn:g.nodes.length < 2 ^ 62) (hf:∀ n∈g.nodes,n.fin):ACalls pg G b27 [d1i g] (lb (b51 g)):=by
 obtain ⟨ns,out⟩:=g
 simp only at hn hf
 refine b02 rfl ?_
 by_cases h70:ns.length<=70
 ·have h70':¬ (70:Int) < ns.length:=by omega
  simp (disch:=omega) [go_sem,a5e,h70']
  refine a0u Nat (fun i st=>i<=ns.length/\(ns.drop i).all a6u=ns.all a6u/\st.s 1= .var [slN ns,li out]/\st.s 3=li i) (fun i=>ns.length - i) 0 ⟨by simp,rfl,by simp (disch:=omega) [go_sem]⟩ ?_
  rintro i st K ⟨hi,hm,h⟩ hK
  by_cases hlt:i < ns.length
  ·rw [List.drop_eq_getElem_cons hlt,List.all_cons] at hm
   have hfi:=hf _ (List.getElem_mem hlt)
   have f1:=hfi.ins
   have f2:=hfi.args
   have f4:=hfi.data
   by_cases k1:ns[i].ins.length<=10
   ·have k1':¬ (10:Int) < ns[i].ins.length:=by omega
    by_cases k2:ns[i].args.length<=10
    ·have k2':¬ (10:Int) < ns[i].args.length:=by omega
     simp (disch:=omega) [go_sem,a2o,h,hlt,k1',k2']
     refine a0c (d76 _ _ _ 300 hfi.shape) rfl rfl ?_
     cases hb:(decide (ns[i].shape.length<=8)&&decide (ns[i].data.length<=300)) with
     | true=>
      rw [show a6u ns[i]=true by unfold a6u; rw [hb]; simp [k1,k2]] at hm
      simp (disch:=omega) [go_sem,h]
      exact hK (i+1) _ ⟨by omega,hm,by simp (disch:=omega) [go_sem,h]⟩ (by omega)
     | false=>
      rw [show a6u ns[i]=false by unfold a6u; rw [hb]; simp] at hm
      have hm':ns.all a6u=false:=hm.symm
      simp (disch:=omega) [go_sem,h,b51,hm']
    ·have k2':(10:Int) < ns[i].args.length:=by omega
     rw [show a6u ns[i]=false by simp [a6u,k2]] at hm
     have hm':ns.all a6u=false:=hm.symm
     simp (disch:=omega) [go_sem,a2o,h,hlt,k1',k2',b51,hm']
   ·have k1':(10:Int) < ns[i].ins.length:=by omega
    rw [show a6u ns[i]=false by simp [a6u,k1]] at hm
    have hm':ns.all a6u=false:=hm.symm
    simp (disch:=omega) [go_sem,a2o,h,hlt,k1',b51,hm']
  ·obtain rfl:i=ns.length:=by omega
   rw [List.drop_length] at hm
   have hm':ns.all a6u=true:=hm.symm
   simp (disch:=omega) [go_sem,a2o,h,b51,h70,hm']
 ·have h70':(70:Int) < ns.length:=by omega
  simp (disch:=omega) [go_sem,a5e,h70',b51,h70]
theorem d1v (sh:List Int) (w:Bool) (hlen:sh.length < 2 ^ 40):ACalls pg G b0e [.agg [slI sh,lb w]] (.agg [owI sh,lb w]):=by
 refine b3q rfl ?_
 simp (disch:=omega) [go_sem,b0y]
 refine a0b ?_
 simp (disch:=omega) [go_sem]
 refine a0m (d4u G sh hlen) rfl (b3u _) (by simp) [5] (by simp) (by simp (disch:=omega) [go_sem]) ?_
 simp (disch:=omega) [go_sem]
 refine a0d (by decide) fun s2 hs he=> ?_
 simp (disch:=omega) [go_sem,hs]
structure Nd.sh (n:Nd):Prop where
 ins:n.ins.length < 2 ^ 36
 args:n.args.length < 2 ^ 36
 shape:n.shape.length < 2 ^ 36
 data:n.data.length < 2 ^ 36
theorem c5p (sh:List Int) (w:Bool) (data:List Int):a7m sh w data= .nil\/(∃ g,g < 21/\a7m sh w data= .s g)\/∃ p g,g < 21/\a7m sh w data= .at p (.s g):=by
 unfold a7m
 split
 ·split
  ·cases a36 w data 0 with
   | none=>exact .inl rfl
   | some i=>exact .inr (.inr ⟨i,3,by decide,rfl⟩)
  ·exact .inr (.inl ⟨6,by decide,rfl⟩)
 ·rcases a2m sh with e | e | e<;>rw [e]
  ·exact .inl rfl
  ·exact .inr (.inl ⟨2,by decide,rfl⟩)
  ·exact .inr (.inl ⟨3,by decide,rfl⟩)
end
end Go.Ideal.Tryz
end
section
namespace Go.Ideal
theorem c7e {α:Type} {f:α->List AV} {k:Nat} {xs:List α} (hf:∀ x,(f x).length=k) {i j:Nat} (h:i < xs.length) (hj:j < k):(fm f xs)[i*k+j]? =(f xs[i])[j]? :=by
 have h1:=c55 (f:=f) (k:=k) hf h
 rw [<-h1,List.getElem?_take,if_pos hj,List.getElem?_drop]
namespace Tryz
section
variable {xs:List Nd} {i:Nat}
@[go_sem] theorem f4b (h:i < xs.length):(fm a5q xs)[i*6]? =some (li xs[i].op):=c7e (f:=a5q) (k:=6) (j:=0) (fun _=>rfl) h (by omega)
@[go_sem] theorem f4c (h:i < xs.length):(fm a5q xs)[i*6+1]? =some (slI xs[i].ins):=c7e (f:=a5q) (k:=6) (fun _=>rfl) h (by omega)
end
section
variable {G:GG} {bk:Nat->Nat×Nat} {Q:Exit->St->Prop} {st:St}
end
end Tryz
end Go.Ideal
end
section
namespace Go.Ideal.Tryz
def Er.isNil:Er->Bool
 | .nil=>true
 | _=>false
section
variable {G:GG} {bk:Nat->Nat×Nat} {Q:Exit->St->Prop} {st:St}
theorem d48 {l:List (List Int)} {m:Nat} (h:∀ r∈l,r.length<=m):tot l<=m*l.length:=by
 induction l with
 | nil=>simp [tot]
 | cons r l ih=>
  have h1:=h r (by simp)
  have h2:=ih fun x hx=>h x (by simp [hx])
  simp only [tot,List.map_cons,List.sum_cons,List.length_cons] at h2 ⊢
  rw [Nat.mul_add,Nat.mul_one]
  omega
end
def b4e:IC:=(.seq (.reg [oo 1 (.box 76 2 (.t 0)),
 oo 2 (.alloc 76 [.own 1 0 [],.lit (.bool false)])]) (.seq (.draw [oo 3 (.faddr 76 0 (.t 1) 0),
 oo 4 (.load 74 none (.t 3)),
 oc 5 123 [(false,(.t 4))] [74],
 oo 6 (.faddr 76 1 (.t 1) 1),
 oo 7 (.load 4 none (.t 6)),
 oo 8 (.build 76 [.own 1 0 [],.lit (.bool false)] [(0,0,1,(.t 5)),(1,1,1,(.t 7))]),
 ov (.store 76 2 (.t 2) (.t 8))] [[],[0],[1],[],[3],[2,4],[5,2,0,1,2,3,4,5]]) .ret))
abbrev b9z:Nat:=154
theorem b6b:fnC pg 154 9 [(.cells 2 2)] b4e:=a0s Go.Proofs.Tryz.f154 [(.cell 2 76)] (by kernel_rfl)
def a7z:IC:=(.seq (.reg [oo 2 (.asg (.nl 1))]) (.seq (.seq (.reg [om 3 0,
 ⟨(some 4),.nilq 74 (.t 3) 74,none⟩]) (.cond (.t 4) (.seq (.reg [oo 2 (.asg (.nl 1))]) .ret) .skip)) (.seq (.reg [oo 5 (.bslice 74 3 1 0 [.lit (.int .i64 0)] []),
 om 6 0,
 oo 7 (.app 74 3 1 8 (.t 5) (.t 6)),
 oo 2 (.asg (.t 7))]) .ret)))
abbrev b28:Nat:=123
theorem b1b:fnC pg 123 8 [(.tmp 2)] a7z:=a0s Go.Proofs.Tryz.f123 [(.tmp 2)] (by kernel_rfl)
def b1a:IC:=(.seq (.reg [oo 2 (.box 76 2 (.t 0)),
 oo 3 (.box 76 2 (.t 1)),
 oo 4 (.asg (.c (.bool false)))]) (.seq (.reg [oo 5 (.faddr 76 1 (.t 2) 1),
 oo 6 (.load 4 none (.t 5)),
 oo 7 (.faddr 76 1 (.t 3) 1),
 oo 8 (.load 4 none (.t 7)),
 oo 9 (.bin .eql 4 1 (.t 6) (.t 8) 4),
 om 10 9,
 og 11 (.faddr 76 0 (.t 2) 0) 5 10 true,
 og 12 (.load 74 none (.t 11)) 5 10 true,
 og 13 (.faddr 76 0 (.t 3) 0) 5 10 true,
 og 14 (.load 74 none (.t 13)) 5 10 true,
 ⟨(some 15),.call 157 [(false,(.t 12)),(false,(.t 14))] [74,74],(some (5,10,true))⟩,
 oo 16 (.pick (.t 10) (.t 15) (.c (.bool false))),
 oo 4 (.asg (.t 16))]) .ret))
abbrev c1m:Nat:=138
theorem b76:fnC pg 138 17 [(.tmp 4)] b1a:=a0s Go.Proofs.Tryz.f138 [(.tmp 4)] (by kernel_rfl)
def a41:IC:=(.seq (.reg [oo 14 (.bin .lss 3 0 (.t 13) (.t 12) 3)]) (.seq (.cond (.t 14) .skip (.exit 0)) (.seq (.block 1 (.seq (.reg [om 15 13,
 oo 5 (.asg (.t 15))]) (.seq (.draw [om 16 0,
 om 17 5,
 oo 18 (.iaddr 74 1 (.t 16) (.t 17)),
 oo 19 (.load 3 none (.t 18)),
 om 20 1,
 om 21 5,
 oo 22 (.iaddr 74 1 (.t 20) (.t 21)),
 oo 23 (.load 3 none (.t 22)),
 oo 24 (.bin .neq 3 0 (.t 19) (.t 23) 3)] [[],[],[0,1],[2],[],[],[4,5],[6],[3,7]]) (.cond (.t 24) (.seq (.reg [oo 4 (.asg (.c (.bool false)))]) .ret) .skip)))) (.reg [oo 25 (.bin .add 3 0 (.t 13) (.n 1) 3),
 om 13 25]))))
def a5m:IC:=(.seq (.reg [oo 4 (.asg (.c (.bool false)))]) (.seq (.seq (.reg [om 6 0,
 oo 7 (.len 74 false (.t 6)),
 om 8 1,
 oo 9 (.len 74 false (.t 8)),
 oo 10 (.bin .neq 3 0 (.t 7) (.t 9) 3)]) (.cond (.t 10) (.seq (.reg [oo 4 (.asg (.c (.bool false)))]) .ret) .skip)) (.seq (.seq (.reg [om 11 0,
 oo 12 (.len 74 false (.t 11)),
 oo 13 (.mv (.n 0))]) (.block 0 (.loop a41))) (.seq (.reg [oo 4 (.asg (.c (.bool true)))]) .ret))))
abbrev b29:Nat:=157
theorem b1c:fnC pg 157 26 [(.tmp 4)] a5m:=a0s Go.Proofs.Tryz.f157 [(.tmp 4)] (by kernel_rfl)
structure Ds where
 shape:List Int
 wide:Bool
 deriving DecidableEq
structure Tn where
 shape:List Int
 wide:Bool
 data:List Int
 deriving DecidableEq
structure Vw where
 off:Int
 shape:List Int
 wide:Bool
 deriving DecidableEq
structure In where
 op:Int
 dst:Int
 ins:List Int
 args:List Int
 frm:Int
 to:Int
 deriving DecidableEq
structure Pl where
 size:Int
 views:List Vw
 consts:List Tn
 weights:List Ds
 code:List In
 input:Int
 output:Int
 deriving DecidableEq
def eD (d:Ds):List AV:=[slI d.shape,lb d.wide]
def eT (d:Tn):List AV:=[slI d.shape,lb d.wide,slI d.data]
def eV (d:Vw):List AV:=[li d.off,slI d.shape,lb d.wide]
def eI (d:In):List AV:=[li d.op,li d.dst,slI d.ins,slI d.args,li d.frm,li d.to]
@[go_sem] theorem f34 {xs:List Ds}:(fm eD xs).length=xs.length*2:=c2h fun _=>rfl
@[go_sem] theorem f33 {xs:List Ds} {i:Nat} (h:i < xs.length):((fm eD xs).drop (i*2)).take 2=[slI xs[i].shape,lb xs[i].wide]:=c55 (f:=eD) (k:=2) (fun _=>rfl) h
@[go_sem] theorem d50 {xs:List Ds}:(fm eD xs).take (xs.length*2)=fm eD xs:=c0g fun _=>rfl
@[go_sem] theorem f32 {xs:List Ds}:a2z (fm eD xs)=fm eD xs:=by
 rw [c9c]; congr 1
abbrev slD (xs:List Ds):AV:= .sl xs.length (fm eD xs)
abbrev slT (xs:List Tn):AV:= .sl xs.length (fm eT xs)
abbrev slV (xs:List Vw):AV:= .sl xs.length (fm eV xs)
abbrev slJ (xs:List In):AV:= .sl xs.length (fm eI xs)
def eP (p:Pl):List AV:=[li p.size,slV p.views,slT p.consts,slD p.weights,slJ p.code,li p.input,li p.output]
section
variable {G:GG} {bk:Nat->Nat×Nat} {Q:Exit->St->Prop} {st:St}
theorem b60 (xs:List Int) (h:xs.length < 2 ^ 40):ACalls pg G b28 [slI xs] (owI xs):=by
 refine b1b rfl ?_
 simp (disch:=omega) [go_sem,a7z]
 refine f1h fun b hb=> ?_
 cases b with
 | true=>
  have:xs=[]:=by simpa using hb rfl
  subst this
  simp (disch:=omega) [go_sem]
 | false=>simp (disch:=omega) [go_sem]
theorem a35 (sh:List Int) (w:Bool) (hlen:sh.length < 2 ^ 40):ACalls pg G b9z [.agg [slI sh,lb w]] (.agg [owI sh,lb w]):=by
 refine b6b rfl ?_
 simp (disch:=omega) [go_sem,b4e]
 refine a0b ?_
 simp (disch:=omega) [go_sem]
 refine a0m (b60 sh hlen) rfl (b3u _) (by simp) [5] (by simp) (by simp (disch:=omega) [go_sem]) ?_
 simp (disch:=omega) [go_sem]
 refine a0d (by decide) fun s2 hs he=> ?_
 simp (disch:=omega) [go_sem,hs]
end
def eqP {α:Type} (p:α->α->Bool):List α->List α->Bool
 | [],[]=>true
 | x::xs,y::ys=>p x y&&eqP p xs ys
 | _,_=>false
theorem d4n {α:Type} [DecidableEq α] {p:α->α->Bool}:∀ {a b:List α},(∀ x∈a,∀ y∈b,p x y=decide (x=y))->eqP p a b=decide (a=b)
 | [],[],h=>by simp [eqP]
 | [],_::_,_=>by simp [eqP]
 | _::_,[],_=>by simp [eqP]
 | x::xs,y::ys,h=>by
  rw [eqP,h x (by simp) y (by simp),d4n fun a ha b hb=>h a (by simp [ha]) b (by simp [hb])]
  by_cases h1:x=y<;>by_cases h2:xs=ys<;>simp [h1,h2]
theorem d2d {α:Type} {p:α->α->Bool} {a b:List α} {i:Nat} (h:i < a.length) (h2:i < b.length):eqP p (a.drop i) (b.drop i)=(p a[i] b[i]&&eqP p (a.drop (i+1)) (b.drop (i+1))):=by
 rw [List.drop_eq_getElem_cons h,List.drop_eq_getElem_cons h2]; rfl
section
variable {G:GG} {bk:Nat->Nat×Nat} {Q:Exit->St->Prop} {st:St}
theorem d2e (a b:List Int) (ha:a.length < 2 ^ 62) (hb:b.length < 2 ^ 62):ACalls pg G b29 [slI a,slI b] (lb (decide (a=b))):=by
 refine b1c rfl ?_
 by_cases hl:a.length=b.length
 ·have hl':(a.length:Int)=b.length:=by omega
  simp (disch:=omega) [go_sem,a5m,hl']
  refine a0u Nat (fun i st=>i<=a.length/\eqP (fun x y=>decide (x=y)) (a.drop i) (b.drop i)=decide (a=b)/\st.s 0=slI a/\st.s 1=slI b/\st.s 11=slI a/\st.s 12=li a.length/\st.s 13=li i) (fun i=>a.length - i) 0 ⟨by simp,d4n fun _ _ _ _=>rfl,by simp (disch:=omega) [go_sem,hl']⟩ ?_
  rintro i st K ⟨hi,hm,h⟩ hK
  by_cases hlt:i < a.length
  ·have hlt2:i < b.length:=by omega
   rw [d2d hlt hlt2] at hm
   simp (disch:=omega) [go_sem,a41,h,hlt]
   refine a0b ?_
   simp (disch:=omega) [go_sem,h,hlt]
   refine a0d (by decide) fun s2 hs he=> ?_
   by_cases k:a[i]=b[i]
   ·rw [decide_eq_true k,Bool.true_and] at hm
    simp (disch:=omega) [go_sem,hs,h,k]
    exact hK (i+1) _ ⟨by omega,hm,by simp (disch:=omega) [go_sem,hs,h]⟩ (by omega)
   ·rw [decide_eq_false k,Bool.false_and] at hm
    simp (disch:=omega) [go_sem,hs,h,k,<-hm]
  ·obtain rfl:i=a.length:=by omega
   rw [List.drop_length,hl,List.drop_length,eqP] at hm
   simp (disch:=omega) [go_sem,a41,h,<-hm]
 ·have hl':¬ (a.length:Int)=b.length:=by omega
  have hn:a≠b:=fun h=>hl (by rw [h])
  simp (disch:=omega) [go_sem,a5m,hl',hn]
theorem a7k (a b:Ds) (ha:a.shape.length < 2 ^ 62) (hb:b.shape.length < 2 ^ 62):ACalls pg G c1m [.agg (eD a),.agg (eD b)] (lb (decide (a=b))):=by
 refine b76 rfl ?_
 obtain ⟨s1,w1⟩:=a
 obtain ⟨s2,w2⟩:=b
 by_cases k:w1=w2
 ·simp (disch:=omega) [go_sem,b1a,eD,k]
  refine a0c (d2e s1 s2 ha hb) rfl rfl ?_
  simp (disch:=omega) [go_sem,Ds.mk.injEq,k]
 ·simp (disch:=omega) [go_sem,b1a,eD,k,Ds.mk.injEq]
structure Pl.fin (p:Pl):Prop where
 vl:p.views.length < 2 ^ 62
 cl:p.consts.length < 2 ^ 62
 wl:p.weights.length < 2 ^ 62
 il:p.code.length < 2 ^ 62
 vs:∀ x∈p.views,x.shape.length < 2 ^ 62
 cs:∀ x∈p.consts,x.shape.length < 2 ^ 62/\x.data.length < 2 ^ 62
 ws:∀ x∈p.weights,x.shape.length < 2 ^ 62
 is:∀ x∈p.code,x.ins.length < 2 ^ 62/\x.args.length < 2 ^ 62
end
end Go.Ideal.Tryz
end
section
namespace Go.Proofs.YtfncabcldhemkaaGreatDoor
open Go Go.ChangeShapes Go.WideShapes Go.RowKit Go.Ideal Go.Ideal.Tryz
section
variable {H:Type} {e:TypeId×Value->H} {w:World}
theorem e4r:Rd e Tryz.prog w Int 3 (fun n=>[li n]) (fun n=> -9223372036854775808<=n/\n<=9223372036854775807):=Rd.int Tryz.underlying3
theorem e4q:Rd e Tryz.prog w Bool 4 (fun n=>[lb n]) (fun _=>True):=Rd.bool Tryz.underlying4
theorem c6i:Rd e Tryz.prog w (List Int) 74 (fun xs=>[slI xs]) (fun xs=>xs.length<=reachBytes/\∀ x∈xs,-9223372036854775808<=x/\x<=9223372036854775807):=
 Rd.slice1 Tryz.underlying74 (of_decide_eq_true (by kernel_rfl)) (of_decide_eq_true (by kernel_rfl)) (Rd.int Tryz.underlying3)
theorem d4j:Tryz.prog.cellsOf 3=1:=by kernel_rfl
theorem e1g:Tryz.prog.cellsOf 4=1:=by kernel_rfl
theorem b97:Tryz.prog.cellsOf 74=1:=by kernel_rfl
theorem c8r:Tryz.prog.cellsOf 76=2:=by kernel_rfl
theorem c8s:Tryz.prog.cellsOf 85=3:=by kernel_rfl
theorem f6h:Rd e Tryz.prog w Ds 76 eD (fun d=>d.shape.length<=reachBytes):=
 (Rd.struct (l:=[(74,0),(4,1)]) (by kernel_rfl) c8r (.cons b97 c6i (.cons e1g e4q .nil))).map (fun x=>⟨x.1,x.2.1⟩) (fun x=>rfl) (fun x hx=>hx.1.1)
theorem f6i:Rd e Tryz.prog w Tn 85 eT (fun d=>d.shape.length<=reachBytes/\d.data.length<=reachBytes):=
 (Rd.struct (l:=[(76,0),(74,2)]) (by kernel_rfl) c8s (.cons c8r f6h (.cons b97 c6i .nil))).map (fun x=>⟨x.1.shape,x.1.wide,x.2.1⟩) (fun x=>rfl) (fun x hx=>⟨hx.1,hx.2.1.1⟩)
theorem c5x:Tryz.prog.cellsOf 108=6:=by kernel_rfl
theorem d5q:Tryz.prog.cellsOf 47=1:=by kernel_rfl
theorem d5r:Tryz.prog.cellsOf 49=2:=by kernel_rfl
theorem e4s:Rd e Tryz.prog w Nd 108 a5q Nd.fin:=
 (Rd.struct (l:=[(3,0),(74,1),(74,2),(85,3)]) (by kernel_rfl) c5x (.cons d4j e4r (.cons b97 c6i (.cons b97 c6i (.cons c8s f6i .nil))))).map
  (fun x=>⟨x.1,x.2.1,x.2.2.1,x.2.2.2.1.shape,x.2.2.2.1.wide,x.2.2.2.1.data⟩) (fun x=>rfl)
  (fun x hx=>by
   obtain ⟨_,⟨h1,_⟩,⟨h2,_⟩,⟨h3,h4⟩,_⟩:=hx
   unfold reachBytes at *
   exact ⟨Nat.lt_of_le_of_lt h1 (by decide),Nat.lt_of_le_of_lt h2 (by decide),Nat.lt_of_le_of_lt h3 (by decide),Nat.lt_of_le_of_lt h4 (by decide)⟩)
theorem f20:Tryz.prog.underlying 47=some (.slice 108):=by kernel_rfl
theorem d63:Rd e Tryz.prog w (List Nd) 47 (fun xs=>[slN xs]) (fun xs=>xs.length<=reachBytes/\∀ x∈xs,x.fin):=
 Rd.slice f20 (of_decide_eq_true (by kernel_rfl)) e4s (fun x=>by rw [c5x]; rfl)
theorem c05:b8a Tryz.prog 49 [(47,0),(3,1)]=true:=by kernel_rfl
theorem d0f:Rd e Tryz.prog w Gr 49 (fun g=>[slN g.nodes,li g.out]) (fun g=>g.nodes.length<=reachBytes/\∀ x∈g.nodes,x.fin):=
 (Rd.struct (l:=[(47,0),(3,1)]) c05 d5r (.cons d5q d63 (.cons d4j e4r .nil))).map (fun x=>⟨x.1,x.2.1⟩) (fun x=>rfl) (fun x hx=>hx.1)
end
end Go.Proofs.YtfncabcldhemkaaGreatDoor
end
section
namespace Go.Ideal
theorem ACalls.frz {P:Program} {G:GG} {f:FuncId} {pre:List AV} {res:AV} (h:ACalls P G f pre res):ACalls P G f pre (Ideal.frz res):=by
 intro w args A ow h1 h2 h3 h4 h5
 refine (h w args A ow h1 h2 h3 h4 h5).mono ?_
 rintro e w' ⟨v,rfl,hr⟩
 refine ⟨v,rfl,hr.le,hr.os,hr.tape,hr.output,hr.frame,noB,fun _ h=>h.elim,?_⟩
 obtain ⟨F,hF,hR⟩:=hr.own
 exact c4o (fun b hb=>⟨hb.1,fun h=>h,hb.2.2⟩) res (fun b hb=>⟨(hF b hb).2,fun h=>h,(hF b hb).1.elim (fun h=> .inr (.inl h)) fun h=> .inr (.inr h)⟩) hR
theorem ACalls.shown {P:Program} {G:GG} {f:FuncId} {pre:List AV} {res res':AV} (h:ACalls P G f pre res) (he:Ideal.frz res=res'):ACalls P G f pre res':=he ▸ h.frz
section
variable {N:Nat} {st st1 st2:St} {P:Program} {G:GG} {K:St->Prop}
def b64 (N:Nat) (a b:St):Prop:=(∀ u,u < N->b.s u=a.s u)/\∀ u,b.ep u=a.ep u
@[go_sem] theorem d89:b64 N st st=True:=by simp [b64]
def d4m (N:Nat) (a b:St):Prop:=b64 N a b
@[go_sem] theorem e1w {t:Nat} {v:AV}:b64 N st1 (st2.put t v)=frI (decide (N<=t)&& !nm v) (b64 N st1 st2) (d4m N st1 (st2.put t v)):=by
 simp only [frI,d4m]
 split
 ·rename_i h
  simp only [Bool.and_eq_true,decide_eq_true_eq,Bool.not_eq_true'] at h
  apply propext
  simp only [b64,St.put_s,St.put_ep,h.2,Bool.false_eq_true,and_false,if_false]
  constructor
  ·rintro ⟨h1,h2⟩
   exact ⟨fun u hu=>by have:=h1 u hu; rwa [if_neg (by omega)] at this,h2⟩
  ·rintro ⟨h1,h2⟩
   exact ⟨fun u hu=>by rw [if_neg (by omega)]; exact h1 u hu,h2⟩
 ·rfl
theorem c7a {T:List (Nat×AV)} {d:Option Nat} {res:AV} (h:b64 N st1 st2):d2f st2 N T d res=d2f st1 N T d res:=by
 have e:st2.lentS N T=st1.lentS N T:=by
  refine St.ext' (fun u=> ?_) (fun u=>h.2 u)
  simp only [St.lentS]
  by_cases hu:u < N
  ·simp [hu,h.1 u hu]
  ·simp [hu]
 cases d<;>simp only [d2f,e]
theorem b4v {d:Option Nat} {res:AV} (h:b64 N st1 st2):b4j st2 N d res=b4j st1 N d res:=by
 have e:st2.clear N=st1.clear N:=by
  refine St.ext' (fun u=> ?_) (fun u=>h.2 u)
  simp only [St.clear]
  by_cases hu:u < N
  ·simp [hu,h.1 u hu]
  ·simp [hu]
 cases d<;>simp only [b4j,e]
theorem b98 {d:Option Nat} {f:FuncId} {pre:List AV} {L:List (Nat×Nat)} {res:AV} {posts:List (Nat×AV)} (hA:ACallsX P G f pre res posts) (hn:a0p res=true) (hp:posts.map (·.1)=L.map (·.2)) (hv:(posts.all fun p=>c9l p.2)=true) (h12:b64 N st1 st2)
  (h:K (d2f st1 N ((L.map (·.1)).zip (posts.map (·.2))) d res)):clx P G N d f pre L st1 st2 K:=d5u hA hn hp hv h (by rw [c7a h12]; exact h)
theorem a0g {d:Option Nat} {f:FuncId} {pre:List AV} {res:AV} (hA:ACalls P G f pre res) (hn:a0p res=true) (h12:b64 N st1 st2) (h:K (b4j st1 N d res)):cal P G N d f pre st1 st2 K:=a5w hA hn h (by rw [b4v h12]; exact h)
theorem a47 {aft:DA} {rest:List AO} {fps:List (List Nat×List Nat)} {d:Option Nat} {f:FuncId} {st:St} {pre:List AV} {rd:List Nat} {res:AV} (hA:ACalls P G f pre res) (hn:a0p res=true) (h12:b64 N st1 st2) (hrd:∀ t∈rd,t < N) (W:List Nat) (hW:∀ t∈W,t < N) (hf:fr N W st (b4j st1 N d res)) (h:a99 aft.2 (b4j st1 N d res)/\a93 P G N aft rest (fps++[(rd,W)]) K (b4j st1 N d res)):c50 P G N aft d f pre rd rest fps K st st1 st2:=by
 cases hi:a1l res with
 | true=>exact a0m hA hn hi hrd W hW hf h
 | false=>exact b3i hA hn hi hrd W hW (by rw [b4v h12]; exact hf) (by rw [b4v h12]; exact h)
end
namespace Tryz
section
variable {bk:Nat->Nat×Nat} {e:Er} {st:St} {N d t j:Nat} {x:X}
@[go_sem] theorem f1b:nm (a05 bk e)=false:=by cases e<;>rfl
@[go_sem] theorem d5e:a3z (a05 bk e)=none:=by cases e<;>rfl
@[go_sem] theorem e7v:mvS st d x (a05 bk e)=some (st.put d (a05 bk e)):=by cases e<;>simp [a05,mvS,a04]
@[go_sem] theorem e0w:c3t st N d (.t t) (a05 bk e)=some (st.put d (a05 bk e)):=by cases e<;>simp [a05,go_sem]
@[go_sem] theorem e8a:psS st N (.t t) j (a05 bk e)=some (st.put j (a05 bk e)):=by cases e<;>simp [a05,go_sem]
@[go_sem] theorem e7x:a6v .neq 2 (a05 bk e) (.lit .nilIface)=some (.lit (.bool !e.isNil)):=by cases e<;>rfl
end
end Tryz
section
variable {k:IntKind} {a b:Int}
theorem d5n (h:b≠0):a26 .quo (.int k a) (.int k b)=some (.int k (k.wrap (a.tdiv b))):=by simp [a26,Op.intDiv,h]; rfl
@[go_sem] theorem f3n (h:b≠0):a6v .quo 0 (.lit (.int k a)) (.lit (.int k b))=some (.lit (.int k (k.wrap (a.tdiv b)))):=a51 (d5n h) rfl
end
namespace Tryz
section
variable {G:GG} {bk:Nat->Nat×Nat} {Q:Exit->St->Prop} {st:St}
end
end Tryz
end Go.Ideal
end
section
namespace Go.Ideal.Tryz
section
variable {G:GG} {bk:Nat->Nat×Nat} {Q:Exit->St->Prop} {st:St}
theorem a49 {e:Er}:e.isNil=true↔e= .nil:=by cases e<;>simp [Er.isNil]
end
abbrev Dr:=Ds×Er
def dn:Ds:=⟨[],false⟩
def bad (g:Nat):Dr:=(dn,.s g)
def chk (e:Er) (r:Dr):Dr:=if e.isNil=true then r else (dn,e)
def a1k (n:Int):Bool:=decide (-128<=n)&&decide (n<=127)
def a6f (sh:List Int) (w:Bool):Dr:=chk (a01 sh) (⟨sh,w⟩,.nil)
def c3v (za zb:Int) (a b:Ds):Dr:=
 chk (a01 a.shape) (chk (a01 b.shape) (
  if a.shape.length=2/\b.shape.length=2/\a.shape[1]! =b.shape[0]! /\a.wide=false/\b.wide=false then
   (if (a1k za&&a1k zb)=true then a6f [a.shape[0]!,b.shape[1]!] true else bad 3) else bad 6))
def b0n (args:List Int) (a k:Ds):Dr:=
 chk (a01 a.shape) (chk (a01 k.shape) (
  if a.shape.length=3/\k.shape.length=4/\a.shape[2]! =k.shape[2]! /\a.wide=false/\k.wide=false then
   (if 1<=args[0]! /\args[0]! <=16/\0<=args[1]! /\args[1]! <=15/\a1k args[2]! =true then
    (if 0<=a.shape[0]! +2*args[1]! - k.shape[0]! /\0<=a.shape[1]! +2*args[1]! - k.shape[1]! then
     a6f [(a.shape[0]! +2*args[1]! - k.shape[0]!) / args[0]! +1,(a.shape[1]! +2*args[1]! - k.shape[1]!) / args[0]! +1,k.shape[3]!] true else bad 6) else bad 3) else bad 6))
def b20 (args:List Int) (a:Ds):Dr:=
 chk (a01 a.shape) (
  if a.shape.length=3 then
   (if 1<=args[0]! /\args[0]! <=16/\1<=args[1]! /\args[1]! <=16 then
    (if 0<=a.shape[0]! - args[0]! /\0<=a.shape[1]! - args[0]! then
     (⟨[(a.shape[0]! - args[0]!) / args[1]! +1,(a.shape[1]! - args[0]!) / args[1]! +1,a.shape[2]!],a.wide⟩,.nil) else bad 6) else bad 3) else bad 6)
instance:Inhabited Ds:=⟨dn⟩
def a1i (op:Int) (ins:List Ds):Ds×Bool:=
 if op=16 then (ins[0]!,decide (0 < ins[0]!.shape.length/\ins[0]!.wide=false/\ins[1]! =⟨[256],true⟩))
 else if op=17 then (if ins[0]!.shape.length=2/\ins[1]!.shape.length=1/\ins[1]!.wide=true then (⟨[ins[1]!.shape[0]!,ins[0]!.shape[1]!],ins[0]!.wide⟩,true) else (dn,false))
 else (if ins[0]!.shape.length=0 then (dn,false) else (⟨ins[0]!.shape.dropLast,true⟩,true))
def a9b:List Ds->Dr->Dr
 | [],r=>r
 | d::ds,r=>chk (a01 d.shape) (a9b ds r)
def a42 (op:Int) (ins:List Ds):Dr:=a9b ins (if (a1i op ins).2=true then a6f (a1i op ins).1.shape (a1i op ins).1.wide else bad 6)
def b8j (n:Int) (w:Bool):Bool:=if w=true then decide (-2147483648<=n)&&decide (n<=2147483647) else a1k n
def a1h (op:Int) (args:List Int) (w:Bool):Bool:=
 if op=9 then decide (args[0]! <=args[1]!)&&(b8j args[0]! w&&b8j args[1]! w)
 else if op=10 then (decide (0<=args[0]!)&&decide (args[0]! <=2147483647))&&((decide (0<=args[1]!)&&decide (args[1]! <=62))&&a1k args[2]!)
 else if op=11 then a1k args[0]!
 else true
def a1m (op:Int) (w:Bool):Bool:=if op=10 then false else if op=11 then true else w
def a1u (op:Int) (args:List Int) (ins:List Ds):Dr:=a9b ins (
 if (ins.length=2/\ins[0]! ≠ins[1]!)\/(op=10/\ins[0]!.wide=false)\/(op=11/\ins[0]!.wide=true) then bad 6
 else if a1h op args ins[0]!.wide=true then (⟨ins[0]!.shape,a1m op ins[0]!.wide⟩,.nil) else bad 3)
def a4u (args:List Int) (a:Ds):Dr:=chk (a01 a.shape) (chk (a01 args) (if a3q a.shape=a3q args then (⟨args,a.wide⟩,.nil) else bad 6))
def b4i (a:Ds):Dr:=chk (a01 a.shape) (if a.shape.length=2 then (⟨[a.shape[1]!,a.shape[0]!],a.wide⟩,.nil) else bad 6)
def a0t (op:Int):Bool:=decide (4<=op)&&decide (op<=21)
def a1r (op:Int):Nat:=if op=4\/op=5\/op=6\/op=7\/op=12\/op=13\/op=16\/op=17 then 2 else if a0t op=true then 1 else 0
def a08 (op:Int):Nat:=if op=9\/op=12\/op=14\/op=15 then 2 else if op=10\/op=13 then 3 else if op=11 then 1 else 0
def opR (op:Int) (args:List Int) (ins:List Ds):Dr:=
 if a0t op=true then
  if ins.length=a1r op/\(op=18\/args.length=a08 op) then
   if op=12 then c3v args[0]! args[1]! ins[0]! ins[1]!
   else if op=13 then b0n args ins[0]! ins[1]!
   else if op=14\/op=15 then b20 args ins[0]!
   else if op=16\/op=17\/op=19\/op=20 then a42 op ins
   else if op=18 then a4u args ins[0]!
   else if op=21 then b4i ins[0]!
   else a1u op args ins
  else bad 6
 else bad 5
def atE (k:Int):Er->Er
 | .nil=> .nil
 | .s g=> .at k (.s g)
 | .at _ e=> .at k e
def orE (a b:Er):Er:=if a.isNil=true then b else a
def c54 {α:Type} (f:α->Er):List α->Int->Er
 | [],_=> .nil
 | x::xs,k=>if (f x).isNil=true then c54 f xs (k+1) else atE k (f x)
def f26 (size:Int) (v:Vw):Er:=if (a01 v.shape).isNil=true then (if 0<=v.off/\v.off<=size/\a27 v.shape v.wide<=size - v.off then .nil else .s 3) else a01 v.shape
def tE (t:Tn):Er:=a7m t.shape t.wide t.data
def dE (d:Ds):Er:=a01 d.shape
def d4w (p:Pl) (k:Int):Bool:=decide (0<=k)&&decide (k < (p.views.length:Int))
def b2c (p:Pl):Er:=
 if 128 < p.views.length\/64 < p.consts.length\/8 < p.weights.length\/2048 < p.code.length then .s 2
 else if p.size < 0\/65536 < p.size then .s 3
 else orE (c54 (f26 p.size) p.views 0) (orE (c54 tE p.consts 0) (orE (c54 dE p.weights 0) (if (d4w p p.input&&d4w p p.output)=true then .nil else .s 3)))
instance:Inhabited Vw:=⟨⟨0,[],false⟩⟩
instance:Inhabited Tn:=⟨⟨[],false,[]⟩⟩
instance:Inhabited In:=⟨⟨0,0,[],[],0,0⟩⟩
def Vw.ds (v:Vw):Ds:=⟨v.shape,v.wide⟩
def Tn.ds (v:Tn):Ds:=⟨v.shape,v.wide⟩
end Go.Ideal.Tryz
end
