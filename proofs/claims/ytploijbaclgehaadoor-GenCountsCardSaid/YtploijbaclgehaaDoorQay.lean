/- Part Qay of the proof: walks on a machine that is proved sound. -/
import Derived.Test.YtploijbaclgehaaDoorQax
set_option linter.unusedVariables false
set_option linter.unusedSimpArgs false
set_option maxRecDepth 10000
section
namespace Go.Ideal.Tryd
section
variable {G:GG} {bk:Nat->Nat×Nat} {Q:Exit->St->Prop} {st:St}
@[go_sem] theorem g47 {xs:List In} {i:Nat} (h:i < xs.length):(fm eI xs)[i*6+1]? =some (li xs[i].dst):=b0y (f:=eI) (k:=6) (j:=1) (fun _=>rfl) h (by omega)
def rwT (n:Nat):List Nd:=(List.range n).map (fun (i:Nat)=>opN 8 [(i:Int)] [])
def a8u (sh:List Int) (j:Nat):List AV:=[li 1,.own 1 0 [],slI (0::sh),.own 1 0 [],lb false,.own 1 0 []]++fm b7n (rwT j)
theorem b9y {sh:List Int} {j:Nat}:(a8u sh j).length=(j+1)*6:=by
 have:(fm b7n (rwT j)).length=(rwT j).length*6:=c35
 have h2:(rwT j).length=j:=by simp [rwT]
 simp only [a8u,List.length_append,this,h2,List.length_cons,List.length_nil]
 omega
theorem c5s {sh:List Int} {j:Nat}:a8u sh (j+1)=a8u sh j++[li 8,.own 1 1 [li j],.own 1 0 [],.own 1 0 [],lb false,.own 1 0 []]:=by
 have:rwT (j+1)=rwT j++[opN 8 [(j:Int)] []]:=by simp [rwT,List.range_succ]
 rw [a8u,this,a5k,a5l,<-List.append_assoc]
 rfl
theorem c79 {sh:List Int} {j:Nat}:a1k (a8u sh j)=fm a4p (rwS j sh):=by
 rw [a8u,b3h,c34]
 have:rwS j sh=inN (0::sh)::rwT j:=rfl
 rw [this,a3h]
 congr 1
theorem f6f {n:Nat} {C1 C7:Int} {sh:List Int} (hn:n<=60) (h:st.s 0=li n/\st.s 1=li C1/\st.s 4=lb false/\st.s 5=lb true/\st.s 7=li C7/\st.s 8= .var [.own 6 1 (a8u sh 0),li 0]/\st.s 9=li 0)
  (hex:∀ s:St,(s.s 0=li n/\s.s 1=li C1/\s.s 4=lb false/\s.s 5=lb true/\s.s 7=li C7/\s.s 8= .var [.own 6 (n+1) (a8u sh n),li 0])->Q (.exit 0) s):AW pg G 148 (.loop a1y) Q st:=by
 refine a0x Nat (fun j st=>j<=n/\st.s 0=li n/\st.s 1=li C1/\st.s 4=lb false/\st.s 5=lb true/\st.s 7=li C7/\st.s 8= .var [.own 6 (j+1) (a8u sh j),li 0]/\st.s 9=li j) (fun j=>n - j) 0 ⟨by omega,h⟩ ?_
 clear h
 rintro j st K1 ⟨hj,h⟩ hK
 have ht:(a8u sh j).take ((j+1)*6)=a8u sh j:=by rw [<-b9y (sh:=sh)]; exact List.take_length
 by_cases c:j < n
 ·simp (disch:=omega) [go_sem,a1y,h,c,ht]
  refine hK (j+1) _ ⟨by omega,?_⟩ (by omega)
  rw [c5s]
  simp (disch:=omega) [go_sem,h,ht]
 ·obtain rfl:j=n:=by omega
  simp (disch:=omega) [go_sem,a1y,h]
  exact hex _ (by simp (disch:=omega) [go_sem,h])
theorem f6g {n m:Nat} {p:Pl} {code:List In} (hn:n<=60) (hm:1<=m/\m<=30) (hc:p.code=code++[b26]) (hok:CodeOK m code n) (h:st.s 0=li n/\st.s 4=lb false/\st.s 5=lb true/\st.s 10= .var (eP p)/\st.s 12=li m/\st.s 13=li 0)
  (hex:∀ s:St,s.s 0=li n/\s.s 4=lb false/\s.s 5=lb true/\s.s 10= .var (eP p)/\s.s 12=li m->Q (.exit 2) s):AW pg G 148 (.loop a1z) Q st:=by
 have hlc:=hok.len
 have hmul:n*m<=60*30:=Nat.mul_le_mul hn hm.2
 have hmi:((n:Int)*m)=((n*m:Nat):Int):=by simp
 refine a0x Nat (fun j st=>j<=n*m/\st.s 0=li n/\st.s 4=lb false/\st.s 5=lb true/\st.s 10= .var (eP p)/\st.s 12=li m/\st.s 13=li j) (fun j=>n*m - j) 0 ⟨by omega,by simpa using h⟩ ?_
 clear h
 rintro j st K1 ⟨hj,h⟩ hK
 simp only [eP] at h
 generalize hnm:n*m=nm at *
 by_cases c:j < nm
 ·have hj1:j < p.code.length:=by rw [hc]; simp; omega
  have hj2:j < code.length:=by omega
  have ho:=hok.at_ j hj2
  have e0:p.code[j]=code[j]! :=by
   simp only [hc]
   rw [List.getElem_append_left hj2,a3q hj2]
  generalize hx:code[j]! =x at *
  obtain ⟨o1,o2,o3⟩:=ho
  have hq:Int.tdiv (j:Int) (m:Int)=((j / m:Nat):Int):=by
   rw [Int.tdiv_eq_ediv_of_nonneg (by omega)]; simp
  have hm0:¬ (m:Int)=0:=by omega
  have hqb:j / m<=j:=Nat.div_le_self _ _
  generalize j / m=q at *
  have spec:=b61 (G:=G) (a:=[(q:Int)]) (b:=[(q:Int)]) (by simp)
  simp (disch:=omega) [go_sem,a1z,h,hmi,c,hj1,e0]
  refine a0b ?_
  simp (disch:=omega) [go_sem,h,hj1,e0,o1,o2,o3,hq,hm0]
  refine a0w spec rfl rfl (by simp) [133] (by simp) (by simp (disch:=omega) [go_sem,h,hj1,e0,o1,o2,o3,hq,hm0]) ?_
  simp (disch:=omega) [go_sem,h,hj1,e0,o1,o2,o3,hq,hm0]
  refine a0c (by decide) fun s2 hs2 hep=> ?_
  simp (disch:=omega) [go_sem,hs2,hep,h]
  exact hK (j+1) _ ⟨by omega,by simp (disch:=omega) [go_sem,hs2,hep,h,eP]⟩ (by omega)
 ·have:j=nm:=by omega
  subst this
  simp (disch:=omega) [go_sem,a1z,h,hmi]
  exact hex _ (by simp (disch:=omega) [go_sem,h,eP])
theorem b6h (hS:SentG G bk) (hA:Around G bk) (a0 a1:Int):ACalls pg G a8e [li a0,li a1] (lb true):=by
 have r1:=b3l (n:=a0) (m:=40) (by decide)
 have r2:=b3l (n:=a1) (m:=3000) (by decide)
 have k1:=b3m (G:=G) a0 40 (by decide) (by decide)
 have k2:=b3m (G:=G) a1 3000 (by decide) (by decide)
 obtain ⟨n,hn⟩:∃ n:Nat,c22 a0 40+1=n:=⟨(c22 a0 40+1).toNat,by omega⟩
 generalize c22 a0 40=u at *
 generalize c22 a1 3000=e at *
 have hq1:Int.tdiv (e+1) 250=(e+1) / 250:=Int.tdiv_eq_ediv_of_nonneg (by omega)
 obtain ⟨a,ha⟩:∃ a,a=(e+1) / 250+1:=⟨_,rfl⟩
 have har:1<=a/\a<=13:=by omega
 have hsh:a04 [a,250]= .nil:=by
  rw [a4x]
  simp [b8w,a54,a6a]
  omega
 have hel:a11 [a,250]=a*250:=by
  have:b8w [a,250]=true:=a4x.1 hsh
  simp [a11,this,a6a]
 obtain ⟨m,hm⟩:∃ m,m=((a*250+1023) / 1024).toNat:=⟨_,rfl⟩
 have htc:(a6q (a11 [a,250]) 1).length=m:=by rw [hel,c6o (by omega),hm]
 have hmr:1<=m/\m<=4:=by omega
 have hmul:n*m<=40*4:=Nat.mul_le_mul (by omega) hmr.2
 obtain ⟨p,hp,⟨code,hc,hok⟩,hv,hin,hout,hcs,hws⟩:=e8b (n:=n) (sh:=[a,250]) (m:=m) (by omega) hsh (by rw [hel]; omega) htc (by omega)
 have hof:=c9f (n:=n) (sh:=[a,250]) (by omega) hsh
 obtain ⟨l,hl,hll⟩:=c9e (n:=n) (sh:=[a,250]) (by omega) hsh (o:=upI (a18 [a,250] false)) rfl (by
  have hb:a18 [a,250] false=a*250:=by simp [a18,hel]
  rw [hb]
  unfold upI
  rw [if_neg (by omega)]
  omega)
 have hsn:=e8a (n:=n) (sh:=[a,250]) (by simp)
 have htot:tot ((rwG n [a,250]).nodes.map (·.ins))<=2*((rwG n [a,250]).nodes.map (·.ins)).length:=d4j (fun r hr=>by
  obtain ⟨x,hx,rfl⟩:=List.mem_map.1 hr
  exact (hsn x hx).2)
 have hgl:(rwG n [a,250]).nodes.length=n+1:=a96
 rw [List.length_map,hgl] at htot
 have spec:=d5x hS hA (rwG n [a,250]) (fun x hx=>(hsn x hx).1) (by omega) (by omega) (fun _ x hx ho=>by
  simp only [rwG,rwS,List.mem_cons,List.mem_map,List.mem_range] at hx
  rcases hx with rfl | ⟨i,_,rfl⟩
  ·simp [inN] at ho
  ·simp [opN] at ho) (fun _ d hd=>by rw [hof] at hd; cases hd) (fun _=>by rw [hl,hgl]; simp only; omega)
 rw [hp] at spec
 simp only [d3z,slN,hgl] at spec
 have hlen0:(rwS n [a,250]).length=n+1:=a96
 have hz:a1k (a8u [a,250] n)=fm a4p (rwS n [a,250]):=c79
 have ht:(a8u [a,250] n).take ((n+1)*6)=a8u [a,250] n:=by rw [<-b9y (sh:=[a,250])]; exact List.take_length
 have hcl:=hok.len
 have hmi:((n:Int)*m)=((n*m:Nat):Int):=by simp
 obtain ⟨M,hM⟩:∃ M:Nat,n*m=M:=⟨_,rfl⟩
 rw [hM] at hcl hmi hmul
 have hpl:p.code.length=M+1:=by rw [hc]; simp [hcl]
 have hplI:(p.code.length:Int)=(M:Int)+1:=by rw [hpl]; simp
 have hlast:(fm eI p.code)[M*6]? =some (li 24):=by
  rw [e26 (by omega)]
  have:p.code[M].op=24:=by
   simp only [hc]
   rw [List.getElem_append_right (by omega)]
   simp [hcl,b26]
  rw [this]
 have hmm:((a*250+1024 - 1).tdiv 1024)=(m:Int):=by
  rw [Int.tdiv_eq_ediv_of_nonneg (by omega)]
  omega
 refine a6u rfl ?_
 simp (disch:=omega) [go_sem,a4q]
 refine a0i (c72 hS hA) rfl rfl ?_
 simp (disch:=omega) [go_sem]
 refine a0i k1 rfl rfl ?_
 simp (disch:=omega) [go_sem,hn]
 refine a0i k2 rfl rfl ?_
 simp (disch:=omega) [go_sem,hn,hq1]
 rw [<-ha]
 refine f6f (n:=n) (sh:=[a,250]) (C1:=e+1) (C7:=a) (by omega) (by simp (disch:=omega) [go_sem,hn,hq1,a8u,rwT,a24]) (fun s h=> ?_)
 generalize hvv:a8u [a,250] n=v at *
 simp only [rwG] at spec
 simp only [eP] at spec
 have h10:p.output=(n:Int):=hout
 simp (disch:=omega) [go_sem,h,hz,ht]
 refine a7t spec (by simp [go_sem,noRef]) ?_ ?_
 all_goals
  simp (disch:=omega) [go_sem,h,hmm,hmi,hplI,hv,hin,hout,hcs,hws,a0r]
  refine f6g (n:=n) (m:=m) (p:=p) (code:=code) (by omega) (by omega) hc hok (by simp (disch:=omega) [go_sem,h,hmm,hin,hout,hcs,hws,hv,eP]) (fun s1 h1=> ?_)
  simp only [eP,hcs,hws,hin,hout] at h1
  have hlt:M < p.code.length:=by omega
  simp (disch:=omega) [go_sem,h1,hmi,hplI,hlast,hlt]
end
end Go.Ideal.Tryd
end
