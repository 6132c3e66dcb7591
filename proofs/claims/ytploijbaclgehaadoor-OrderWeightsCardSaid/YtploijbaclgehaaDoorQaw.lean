/- Part Qaw of the proof: walks on a machine that is proved sound. -/
import Derived.Test.YtploijbaclgehaaDoorQav
import Derived.Test.YtploijbaclgehaaDoorQah
import Derived.Test.YtploijbaclgehaaDoorQau
set_option linter.unusedVariables false
set_option linter.unusedSimpArgs false
set_option maxRecDepth 10000
section
namespace Go.Ideal.Tryd
attribute [local go_sem] eD
theorem b0h {l:List AV} {i:Nat} {v:AV} (h:i < l.length):a0h l i [v]=l.set i v:=by
 rw [List.set_eq_take_append_cons_drop,if_pos h]; simp [a0h]
section
variable {G:GG} {bk:Nat->Nat×Nat} {Q:Exit->St->Prop} {st:St}
end
end Go.Ideal.Tryd
end
section
namespace Go.Ideal.Tryd
def a1g:IC:=(.seq (.seq (.reg [om 81 11,
 om 82 0,
 oo 83 (.bin .lss 3 0 (.t 81) (.t 82) 3)]) (.cond (.t 83) .skip (.exit 0))) (.seq (.block 1 (.seq (.reg [oo 86 (.faddr 51 4 (.t 9) 3),
 oo 87 (.load 24 none (.t 86)),
 om 88 11,
 oo 89 (.iaddr 24 2 (.t 87) (.t 88)),
 oo 90 (.faddr 39 0 (.t 89) 0),
 oo 91 (.load 34 none (.t 90)),
 oo 92 (.len 34 false (.t 91)),
 oo 93 (.bin .neq 3 0 (.t 92) (.n 0) 3),
 om 94 93,
 og 95 (.faddr 51 4 (.t 9) 3) 8 94 false,
 og 96 (.load 24 none (.t 95)) 8 94 false,
 og 97 (.mv (.t 11)) 8 94 false,
 og 98 (.iaddr 24 2 (.t 96) (.t 97)) 8 94 false,
 og 99 (.faddr 39 1 (.t 98) 1) 8 94 false,
 og 100 (.load 4 none (.t 99)) 8 94 false,
 oo 101 (.pick (.t 94) (.c (.bool true)) (.t 100))]) (.cond (.t 101) (.seq (.reg [oo 6 (.asg (.c (.bool false)))]) .ret) .skip))) (.reg [om 84 11,
 oo 85 (.bin .add 3 0 (.t 84) (.n 1) 3),
 oo 11 (.asg (.t 85))])))
def a29:IC:=(.seq (.reg [oo 6 (.asg (.c (.bool false)))]) (.seq (.reg [oc 12 14 [] [],
 oo 7 (.asg (.t 12))]) (.seq (.seq (.reg [om 13 7,
 oo 14 (.un .not 4 (.t 13))]) (.cond (.t 14) (.seq (.reg [oo 6 (.asg (.c (.bool false)))]) .ret) .skip)) (.seq (.reg [om 15 0,
 oc 16 13 [(false,(.t 15)),(false,(.n 8))] [3,3],
 oo 0 (.asg (.t 16))]) (.seq (.reg [om 17 1,
 oc 18 13 [(false,(.t 17)),(false,(.n 9))] [3,3],
 oo 19 (.bin .add 3 0 (.t 18) (.n 1) 3),
 oo 1 (.asg (.t 19))]) (.seq (.reg [om 20 0,
 om 21 1,
 oo 22 (.bslice 34 3 1 3 [.lit (.int .i64 0)] [(0,(.t 20)),(1,(.n 1)),(2,(.t 21))]),
 oo 23 (.build 46 [.lit (.int .i64 0),.own 1 0 [],.own 1 0 [],.own 1 0 [],.lit (.bool false),.own 1 0 []] [(0,0,1,(.n 3)),(2,2,1,(.t 22))]),
 om 24 0,
 om 25 1,
 oo 26 (.bslice 34 3 1 3 [.lit (.int .i64 0)] [(0,(.t 24)),(1,(.n 1)),(2,(.t 25))]),
 oo 27 (.build 46 [.lit (.int .i64 0),.own 1 0 [],.own 1 0 [],.own 1 0 [],.lit (.bool false),.own 1 0 []] [(0,0,1,(.n 3)),(2,2,1,(.t 26))]),
 oo 28 (.bslice 47 46 6 2 [.lit (.int .i64 0),.own 1 0 [],.own 1 0 [],.own 1 0 [],.lit (.bool false),.own 1 0 []] [(0,(.t 23)),(1,(.t 27))]),
 oo 29 (.build 49 [.own 6 0 [],.lit (.int .i64 0)] [(0,0,1,(.t 28))]),
 oo 8 (.alloc 49 [.own 6 0 [],.lit (.int .i64 0)]),
 ov (.store 49 2 (.t 8) (.t 29))]) (.seq (.seq (.reg [om 30 2,
 oo 31 (.un .not 4 (.t 30))]) (.cond (.t 31) (.reg [oo 32 (.faddr 49 0 (.t 8) 0),
 oo 33 (.load 47 none (.t 32)),
 oo 34 (.iaddr 47 6 (.t 33) (.n 1)),
 oo 35 (.faddr 46 2 (.t 34) 2),
 oo 36 (.load 34 none (.t 35)),
 om 37 1,
 oo 38 (.bin .add 3 0 (.t 37) (.n 1) 3),
 oo 39 (.iaddr 34 1 (.t 36) (.n 2)),
 ov (.store 3 1 (.t 39) (.t 38))]) .skip)) (.seq (.reg [oo 41 (.load 49 (some 2) (.t 8)),
 oc 42 15 [(false,(.t 41))] [49],
 oo 40 (.mva (.t 42)),
 oo 43 (.ext (.t 40) 0),
 oo 44 (.ext (.t 40) 1),
 oo 9 (.alloc 51 [.own 1 0 [],.own 2 0 [],.own 1 0 [],.lit (.bool false),.own 2 0 []]),
 ov (.store 51 5 (.t 9) (.t 43)),
 oo 10 (.asg (.t 44))]) (.seq (.seq (.reg [om 45 2,
 oo 46 (.un .not 4 (.t 45))]) (.cond (.t 46) (.seq (.reg [om 47 7,
 om 48 47,
 og 49 (.mv (.t 10)) 1 48 true,
 ⟨(some 50),.call 17 [(false,(.n 101)),(false,(.n 1))] [3,3],(some (1,48,true))⟩,
 ⟨(some 51),.call 16 [(false,(.t 49)),(false,(.t 50))] [53,58],(some (1,48,true))⟩,
 oo 52 (.pick (.t 48) (.t 51) (.c (.bool false))),
 om 53 52,
 og 54 (.faddr 51 4 (.t 9) 3) 6 53 true,
 og 55 (.load 24 none (.t 54)) 6 53 true,
 og 56 (.len 24 false (.t 55)) 6 53 true,
 og 57 (.bin .eql 3 0 (.t 56) (.n 0) 3) 6 53 true,
 oo 58 (.pick (.t 53) (.t 57) (.c (.bool false))),
 oo 6 (.asg (.t 58))]) .ret) .skip)) (.seq (.seq (.reg [om 59 10,
 oo 60 (.bin .neq 53 2 (.t 59) (.c .nilIface) 53),
 om 61 60,
 og 62 (.faddr 51 4 (.t 9) 3) 2 61 false,
 og 63 (.load 24 none (.t 62)) 2 61 false,
 og 64 (.len 24 false (.t 63)) 2 61 false,
 og 65 (.mv (.t 0)) 2 61 false,
 og 66 (.bin .add 3 0 (.t 65) (.n 1) 3) 2 61 false,
 og 67 (.bin .neq 3 0 (.t 64) (.t 66) 3) 2 61 false,
 oo 68 (.pick (.t 61) (.c (.bool true)) (.t 67)),
 om 69 68,
 og 70 (.faddr 51 2 (.t 9) 2) 10 69 false,
 og 71 (.faddr 39 0 (.t 70) 0) 10 69 false,
 og 72 (.load 34 none (.t 71)) 10 69 false,
 og 73 (.len 34 false (.t 72)) 10 69 false,
 og 74 (.bin .neq 3 0 (.t 73) (.n 0) 3) 10 69 false,
 oo 75 (.pick (.t 69) (.c (.bool true)) (.t 74)),
 om 76 75,
 og 77 (.faddr 51 2 (.t 9) 2) 17 76 false,
 og 78 (.faddr 39 1 (.t 77) 1) 17 76 false,
 og 79 (.load 4 none (.t 78)) 17 76 false,
 oo 80 (.pick (.t 76) (.c (.bool true)) (.t 79))]) (.cond (.t 80) (.seq (.reg [oo 6 (.asg (.c (.bool false)))]) .ret) .skip)) (.seq (.seq (.reg [oo 11 (.asg (.n 0))]) (.block 0 (.loop a1g))) (.seq (.reg [om 102 7,
 om 103 102,
 og 104 (.faddr 51 4 (.t 9) 3) 1 103 true,
 og 105 (.load 24 none (.t 104)) 1 103 true,
 og 106 (.mv (.t 0)) 1 103 true,
 og 107 (.iaddr 24 2 (.t 105) (.t 106)) 1 103 true,
 og 108 (.load 39 (some 2) (.t 107)) 1 103 true,
 og 109 (.mv (.t 1)) 1 103 true,
 og 110 (.bslice 34 3 1 1 [.lit (.int .i64 0)] [(0,(.t 109))]) 1 103 true,
 og 111 (.build 39 [.own 1 0 [],.lit (.bool false)] [(0,0,1,(.t 110)),(1,1,1,(.c (.bool true)))]) 1 103 true,
 ⟨(some 112),.call 18 [(false,(.t 108)),(false,(.t 111))] [39,39],(some (1,103,true))⟩,
 oo 113 (.pick (.t 103) (.t 112) (.c (.bool false))),
 om 114 113,
 og 115 (.faddr 51 0 (.t 9) 0) 12 114 true,
 og 116 (.load 34 none (.t 115)) 12 114 true,
 og 117 (.bslice 34 3 1 2 [.lit (.int .i64 0)] [(0,(.n 0)),(1,(.n 1))]) 12 114 true,
 ⟨(some 118),.call 19 [(false,(.t 116)),(false,(.t 117))] [34,34],(some (12,114,true))⟩,
 oo 119 (.pick (.t 114) (.t 118) (.c (.bool false))),
 oo 6 (.asg (.t 119))]) .ret))))))))))))
abbrev a5o:Nat:=4
theorem a4u:fnC pg 4 120 [(.tmp 6)] a29:=a05 Go.Proofs.Tryd.f4 [(.tmp 6)] (by kernel_rfl)
@[go_sem] theorem b15:fnB pg 4=true:=by kernel_rfl
def owG (k n:Int) (same:Bool):Gr:=⟨[⟨3,[],[k,1,n],[],false,[]⟩,⟨3,[],[k,1,if same=true then n else n+1],[],false,[]⟩],0⟩
def e45 (k n:Nat):Bool:=
 match ofR (owG k n true),ofR (owG k n false) with
 | (s,.nil),(t,.at 1 (.s 6))=>decide (s.ord=[0,1])&&decide (s.hin=dn)&&decide (s.ws=List.replicate k dn++[⟨[(n:Int)],true⟩])&&t.ws.isEmpty
 | _,_=>false
theorem d9v:((List.range 8).all fun k=>(List.range 9).all fun n=>e45 k (n+1))=true:=by kernel_rfl
theorem f0g {k n:Nat} (hk:k < 8) (hn:n < 9):e45 k (n+1)=true:=by
 have:=d9v
 simp only [List.all_eq_true,List.mem_range] at this
 exact this k hk n hn
end Go.Ideal.Tryd
end
section
namespace Go.Ideal.Tryd
attribute [local go_sem] eD eSn
section
variable {G:GG} {bk:Nat->Nat×Nat} {Q:Exit->St->Prop} {st:St}
theorem f0h {k n:Nat} (h:e45 k n=true):(∃ s,ofR (owG k n true)=(s,.nil)/\s.ord=[0,1]/\s.hin=dn/\s.ws=List.replicate k dn++[⟨[(n:Int)],true⟩])/\∃ t,ofR (owG k n false)=(t,.at 1 (.s 6))/\t.ws=[]:=by
 unfold e45 at h
 split at h
 ·rename_i s t h1 h2
  simp only [Bool.and_eq_true,decide_eq_true_eq,List.isEmpty_iff] at h
  exact ⟨⟨s,h1,h.1.1.1,h.1.1.2,h.1.2⟩,t,h2,h.2⟩
 ·cases h
@[go_sem] theorem f6w {xs:List Ds} {i:Nat} (h:i < xs.length):(fm eD xs)[i*2]? =some (slI xs[i].shape):=b4s (f:=eD) (k:=2) (j:=0) (fun _=>rfl) h (by omega)
@[go_sem] theorem f6x {xs:List Ds} {i:Nat} (h:i < xs.length):(fm eD xs)[i*2+1]? =some (lb xs[i].wide):=b4s (f:=eD) (k:=2) (j:=1) (fun _=>rfl) h (by omega)
theorem f0i {K:Nat} {d:Ds} {j:Nat} (h:j < K) (h2:j < (List.replicate K dn++[d]).length):(List.replicate K dn++[d])[j]=dn:=by
 rw [List.getElem_append_left (by simpa using h)]; simp
theorem f0f {K:Nat} {n:Int} {s:Sn} {d:Ds} (hk:K < 8) (hw:s.ws=List.replicate K dn++[d])
  (h:st.s 0=li K/\st.s 1=li n/\st.s 7=lb true/\st.s 9= .var (eSn s)/\st.s 11=li 0)
  (hex:∀ s':St,s'.s 0=li K/\s'.s 1=li n/\s'.s 7=lb true/\s'.s 9= .var (eSn s)->Q (.exit 0) s'):AW pg G 120 (.loop a1g) Q st:=by
 refine a1v Nat (fun j st=>j<=K/\st.s 0=li K/\st.s 1=li n/\st.s 7=lb true/\st.s 9= .var (eSn s)/\st.s 11=li j) (fun j=>K - j) 0 ⟨by omega,by simpa using h⟩ ?_
 clear h
 rintro j st K1 ⟨hj,h⟩ hK
 by_cases c:j < K
 ·have hl:j < s.ws.length:=by rw [hw]; simp; omega
  have hd:s.ws[j]=dn:=by
   have:=f0i (d:=d) c (by simp; omega)
   simp only [hw]; exact this
  simp (disch:=omega) [go_sem,a1g,h,c,hl,hd,dn]
  refine hK (j+1) _ ⟨by omega,?_⟩ (by omega)
  simp (disch:=omega) [go_sem,h]
 ·have:j=K:=by omega
  subst this
  simp (disch:=omega) [go_sem,a1g,h]
  exact hex _ (by simp (disch:=omega) [go_sem,h])
theorem a9i (hS:Sent G bk) (hA:Around G bk) (k n:Int) (same:Bool):ACalls pg G a5o [li k,li n,lb same] (lb true):=by
 have rk:=c0i (n:=k) (m:=8) (by decide)
 have rn:=c0i (n:=n) (m:=9) (by decide)
 refine a4u rfl ?_
 simp (disch:=omega) [go_sem,a29]
 refine a0i (c9i hS) rfl rfl ?_
 simp (disch:=omega) [go_sem]
 refine a0i (c0j k 8 (by decide) (by decide)) rfl rfl ?_
 simp (disch:=omega) [go_sem]
 refine a0i (c0j n 9 (by decide) (by decide)) rfl rfl ?_
 simp (disch:=omega) [go_sem,a62,a0h]
 obtain ⟨K,hK⟩:∃ K:Nat,c6z k 8=K:=⟨(c6z k 8).toNat,by omega⟩
 obtain ⟨N,hN⟩:∃ N:Nat,c6z n 9=N:=⟨(c6z n 9).toNat,by omega⟩
 rw [hK,hN]
 have hk:K < 8:=by omega
 have hn:N < 9:=by omega
 obtain ⟨⟨s,hs,hs1,hs2,hs3⟩,t,ht,ht1⟩:=f0h (f0g hk hn)
 have hsh:∀ same,∀ x∈(owG K (N+1:Nat) same).nodes,x.sh:=by
  intro same x hx
  simp only [owG,List.mem_cons,List.not_mem_nil,or_false] at hx
  rcases hx with rfl | rfl<;>exact ⟨by simp,by simp,by simp,by simp⟩
 have hof:∀ same,ACalls pg G a7s [f4i (owG K (N+1:Nat) same)] (.tup [.agg (eSn (ofR (owG K (N+1:Nat) same)).1),a0u bk (ofR (owG K (N+1:Nat) same)).2]):=fun same=>f7f hS.o hA _ (hsh same) (by simp [owG]) (by simp [owG,tot])
 have hN1:((N+1:Nat):Int)=(N:Int)+1:=by omega
 cases same
 ·have h0:=hof false
  rw [ht] at h0
  have h1:ACalls pg G a7s [.agg [.sl 2 [li 3,.sl 0 [],.sl 3 [li K,li 1,li (N+1)],.sl 0 [],lb false,.sl 0 [],li 3,.sl 0 [],.sl 3 [li K,li 1,li (N+1+1)],.sl 0 [],lb false,.sl 0 []],li 0]] (.tup [.agg (eSn t),a0u bk (.at 1 (.s 6))]):=by
   simp only [owG,hN1,if_true,Bool.false_eq_true,if_false] at h0
   exact h0
  simp (disch:=omega) [go_sem]
  refine a0n h1 (by simp [go_sem,noRef]) (by simp (disch:=omega) [go_sem]) ?_
  simp (disch:=omega) [go_sem,a0u,ht1]
  refine a0i (b5a G _ _) (by split<;>rfl) (by split<;>rfl) ?_
  simp (disch:=omega) [go_sem]
  refine a0i (c8b hS (e:= .at 1 (.s 6)) (.at (by omega)) (101,true,1)) rfl rfl ?_
  rw [show decide ((Er.at 1 (.s 6)).flt=(101,true,1))=true by decide]
  simp (disch:=omega) [go_sem]
 ·have h0:=hof true
  rw [hs] at h0
  have h1:ACalls pg G a7s [.agg [.sl 2 [li 3,.sl 0 [],.sl 3 [li K,li 1,li (N+1)],.sl 0 [],lb false,.sl 0 [],li 3,.sl 0 [],.sl 3 [li K,li 1,li (N+1)],.sl 0 [],lb false,.sl 0 []],li 0]] (.tup [.agg (eSn s),a0u bk .nil]):=by
   simp only [owG,hN1,if_true,Bool.false_eq_true,if_false] at h0
   exact h0
  simp (disch:=omega) [go_sem]
  refine a0n h1 (by simp [go_sem,noRef]) (by simp (disch:=omega) [go_sem]) ?_
  simp (disch:=omega) [go_sem,a0u,hs1,hs2,hs3,dn]
  refine f0f (K:=K) (n:=(N:Int)+1) (s:=s) (d:=⟨[((N+1:Nat):Int)],true⟩) hk hs3 (by simp (disch:=omega) [go_sem,hs1,hs2,hs3,dn]) (fun s1 h1=> ?_)
  have hl:K < s.ws.length:=by rw [hs3]; simp
  have hd:s.ws[K]=⟨[(N:Int)+1],true⟩:=by
   simp only [hs3]
   rw [List.getElem_append_right (by simp)]
   simp
  simp (disch:=omega) [go_sem,h1,hl,hd,hs1]
  refine a0i (d0o [(N:Int)+1] true (by simp)) rfl rfl ?_
  simp (disch:=omega) [go_sem,h1,hs1]
  refine a0i (b32 (a:=[0,1]) (b:=[0,1]) (by simp)) rfl rfl ?_
  simp (disch:=omega) [go_sem,h1]
end
end Go.Ideal.Tryd
end
