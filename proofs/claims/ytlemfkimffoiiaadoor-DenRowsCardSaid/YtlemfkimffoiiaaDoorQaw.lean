/- Part Qaw of the proof: walks on a machine that is proved sound. -/
import Derived.Test.YtlemfkimffoiiaaDoorQav
import Derived.Test.YtlemfkimffoiiaaDoorQah
import Derived.Test.YtlemfkimffoiiaaDoorQau
import Derived.Test.YtlemfkimffoiiaaDoorQai
set_option linter.unusedVariables false
set_option linter.unusedSimpArgs false
set_option maxRecDepth 10000
section
namespace Go.Ideal.Tryd
attribute [local go_sem] eD
theorem b28 {α:Type} {os:List α} {k:Nat} {x z:α}:(os++List.replicate (k+1) z).set os.length x=(os++[x])++List.replicate k z:=by
 rw [List.set_append_right _ _ (Nat.le_refl _),Nat.sub_self,List.replicate_succ,List.set_cons_zero,List.append_assoc]; rfl
section
variable {G:GG} {bk:Nat->Nat×Nat} {Q:Exit->St->Prop} {st:St}
end
theorem b0s {l:List AV} {i:Nat} {v:AV} (h:i < l.length):a0i l i [v]=l.set i v:=by
 rw [List.set_eq_take_append_cons_drop,if_pos h]; simp [a0i]
section
variable {G:GG} {bk:Nat->Nat×Nat} {Q:Exit->St->Prop} {st:St}
end
end Go.Ideal.Tryd
end
section
namespace Go.Ideal.Tryd
def b3l (n:Nat):List Int:=(List.range n).map fun (i:Nat)=>(i:Int)
theorem b6n {n:Nat}:(b3l n).length=n:=by simp [b3l]
theorem c17 {n k:Nat} (h:k < (b3l n).length):(b3l n)[k]=k:=by simp [b3l]
theorem c6u {n:Nat}:b3l (n+1)=b3l n++[(n:Int)]:=by simp [b3l,List.range_succ]
def a9g (n i:Nat):List Bool:=List.replicate i true++List.replicate (n - i) false
theorem b0b {n i k:Nat} (hk:k < n):(a9g n i)[k]! =decide (k < i):=by
 unfold a9g
 by_cases h:k < i
 ·have h2:k < (List.replicate i true++List.replicate (n - i) false).length:=by simp; omega
  rw [b7w h2,List.getElem_append_left (by simpa using h)]
  simp [h]
 ·have h2:k < (List.replicate i true++List.replicate (n - i) false).length:=by simp; omega
  rw [b7w h2,List.getElem_append_right (by simpa using h)]
  simp [h]
theorem c2o {n i:Nat} (h:i < n):(a9g n i).set i true=a9g n (i+1):=by
 unfold a9g
 rw [show n - i=(n - (i+1))+1 by omega,List.set_append_right _ _ (by simp),List.length_replicate,Nat.sub_self,List.replicate_succ,List.set_cons_zero,List.replicate_succ',List.append_assoc]
 rfl
theorem c9e {n i:Nat} (hi:i < n) {ins:List (List Int)} (hn:ins.length=n) (hx:∀ x∈ins[i]!,0<=x/\x < (i:Int)):∀ d k f,k+d=i->(a41 (a9g n i) (ins.drop k) k f).1=i:=by
 intro d
 induction d with
 | zero=>
  intro k f hk
  obtain rfl:k=i:=by omega
  rw [get!_drop (by omega),a41,b0b hi,if_neg (by simp),if_pos]
  rw [List.all_eq_true]
  intro x hx2
  have:=hx x hx2
  rw [b0b (by omega)]
  simp; omega
 | succ d ih=>
  intro k f hk
  rw [get!_drop (by omega),a41,b0b (by omega),if_pos (by simp; omega)]
  exact ih (k+1) f (by omega)
theorem c55 {ins:List (List Int)} (hx:∀ i,i < ins.length->∀ x∈ins[i]!,0<=x/\x < (i:Int)):∀ f i,i+f=ins.length->a81 ins f (a9g ins.length i) (b3l i)= .ok (b3l ins.length):=by
 intro f
 induction f with
 | zero=>intro i h; obtain rfl:i=ins.length:=by omega
         rfl
 | succ f ih=>
  intro i h
  have e:=c9e (n:=ins.length) (i:=i) (by omega) rfl (hx i (by omega)) i 0 (-1) (by omega)
  rw [List.drop_zero] at e
  rw [a81,e,if_neg (by omega),Int.toNat_natCast,c2o (by omega),<-c6u]
  exact ih (i+1) (by omega)
theorem c12 {n:Nat}:∀ {rs:List (List Int)} {k:Nat},(∀ r∈rs,∀ x∈r,0<=x/\x < (n:Int))->c3l n rs k=none
 | [],_,_=>rfl
 | r::rs,k,h=>by
  rw [c3l,if_neg,c12 (fun r2 hr2=>h r2 (by simp [hr2]))]
  rw [Bool.not_eq_true,List.any_eq_false]
  intro x hx
  have:=h r (by simp) x hx
  simp [c6x]; omega
theorem c50 {ins:List (List Int)} (hr:∀ r∈ins,r.length < 2 ^ 61) (hx:∀ i,i < ins.length->∀ x∈ins[i]!,0<=x/\x < (i:Int)):a8z ins= .ok (b3l ins.length):=by
 have h1:c0x ins=(b3l ins.length,(0,false,0)):=by
  unfold c0x
  rw [c12]
  ·have:=c55 hx ins.length 0 (by omega)
   rw [show a9g ins.length 0=List.replicate ins.length false by simp [a9g],show b3l 0=[] from rfl] at this
   simp only [this]
  ·intro r hr2 x hx2
   obtain ⟨i,hi,rfl⟩:=List.mem_iff_getElem.1 hr2
   have:=hx i hi x (by rw [b7w hi]; exact hx2)
   omega
 obtain ⟨a,b⟩:=b0r hr
 cases h:a8z ins with
 | error e=>
  obtain ⟨i,g⟩:=e
  have:=(a i g h).1
  rw [h1] at this
  simp at this
 | ok out=>
  have:=b out h
  rw [h1] at this
  simp only [Prod.mk.injEq,and_true] at this
  rw [this]
def dTo (D:Nat->Ds) (N i:Nat):List Ds:=(List.range i).map D++List.replicate (N - i) dn
theorem b9v {D:Nat->Ds} {N i k:Nat} (h:k < i):(dTo D N i)[k]! =D k:=by
 unfold dTo
 have h2:k < ((List.range i).map D++List.replicate (N - i) dn).length:=by simp; omega
 rw [b7w h2]
 rw [List.getElem_append_left (by simpa using h)]
 simp
theorem d1o {D:Nat->Ds} {N i:Nat} (h:i < N):(dTo D N i).set i (D i)=dTo D N (i+1):=by
 unfold dTo
 rw [show N - i=(N - (i+1))+1 by omega]
 have:=b28 (os:=(List.range i).map D) (k:=N - (i+1)) (x:=D i) (z:=dn)
 rw [List.length_map,List.length_range] at this
 rw [this,List.range_succ,List.map_append]
 rfl
theorem c0g {ns:List Nd} {N:Nat} (hN:ns.length=N) {D:Nat->Ds} {L:Nat->Lk} (h:∀ i,i < N->a3e { L i with descs:=dTo D N i } ns[i]! =((D i,.nil),{ L (i+1) with descs:=dTo D N i })) :
  ∀ k i,i+k=N->a5g ns { L i with descs:=dTo D N i } ((b3l N).drop i)=({ L N with descs:=dTo D N N }.sn,.nil):=by
 intro k
 induction k with
 | zero=>
  intro i hi
  obtain rfl:i=N:=by omega
  rw [List.drop_of_length_le (by rw [b6n]; exact Nat.le_refl _),a5g]
 | succ k ih=>
  intro i hi
  have hlt:i < (b3l N).length:=by rw [b6n]; omega
  rw [List.drop_eq_getElem_cons hlt,c17,a5g,Int.toNat_natCast,h i (by omega)]
  simp only [Er.isNil,if_true]
  rw [d1o (by omega)]
  exact ih (i+1) (by omega)
theorem d2x {g:Gr} {N:Nat} (hN:g.nodes.length=N) (h64:N<=64) (hout:0<=g.out/\g.out < (N:Int)) (hf:∀ n∈g.nodes,n.ins.length < 2 ^ 61) (hins:∀ i,i < N->∀ x∈(g.nodes[i]!).ins,0<=x/\x < (i:Int)) {D:Nat->Ds} {L:Nat->Lk} (h0:L 0=lk0 (b3l N) N)
  (h:∀ i,i < N->a3e { L i with descs:=dTo D N i } g.nodes[i]! =((D i,.nil),{ L (i+1) with descs:=dTo D N i })) :
  ofR g=({ L N with descs:=(List.range N).map D }.sn,.nil):=by
 have hs:a8z (g.nodes.map (·.ins))= .ok (b3l N):=by
  have:=c50 (ins:=g.nodes.map (·.ins)) (fun r hr=>by
   obtain ⟨n,hn,rfl⟩:=List.mem_map.1 hr
   exact hf n hn) (fun i hi x hx=>by
   rw [List.length_map] at hi
   rw [b7w (by simpa using hi),List.getElem_map] at hx
   exact hins i (by omega) x (by rw [b7w hi]; exact hx))
  rw [this]; simp [hN]
 unfold ofR
 rw [if_neg (by omega),if_neg (by omega),hs,hN]
 simp only
 have:=c0g hN h N 0 (by omega)
 rw [List.drop_zero,h0] at this
 have e0:dTo D N 0=List.replicate N dn:=by simp [dTo]
 have e1:dTo D N N=(List.range N).map D:=by simp [dTo]
 rw [e0,e1] at this
 exact this
theorem b38 {e:Int} (h:1<=e/\e<=256):a07 [e]= .nil:=by
 rw [a4y]; simp [b81,a5k,a52]; omega
def inN (args:List Int):Nd:=⟨1,[],args,[],false,[]⟩
def opN (op:Int) (ins args:List Int):Nd:=⟨op,ins,args,[],false,[]⟩
theorem c84 {l:Lk} {e:Int} (h:1<=e/\e<=256) (hl:l.input=false):a3e l (inN [0,e])=((⟨[e],false⟩,.nil),{ l with input:=true,hin:=⟨[e],false⟩ }):=by
 simp [a3e,inN,a2n,inR,a3v,chk,b38 h,Er.isNil,hl]
theorem c1y {l:Lk} {op:Int} {ins args:List Int} (h:a2n op=true):a3e l (opN op ins args)=(opR op args (lkD l ins),l):=by
 simp [a3e,opN,h]
def a15:IC:=(.seq (.seq (.reg [om 42 9,
 om 43 1,
 oo 44 (.len 22 false (.t 43)),
 oo 45 (.bin .lss 3 0 (.t 42) (.t 44) 3)]) (.cond (.t 45) .skip (.exit 0))) (.seq (.block 1 (.draw [oo 48 (.faddr 28 2 (.t 8) 1),
 oo 49 (.load 22 none (.t 48)),
 om 50 1,
 om 51 9,
 oo 52 (.iaddr 22 1 (.t 50) (.t 51)),
 oo 53 (.load 3 none (.t 52)),
 oc 54 5 [(false,(.t 53)),(false,(.n 256))] [3,3],
 oo 55 (.bin .sub 3 0 (.t 54) (.n 128) 3),
 oo 56 (.bslice 22 3 1 1 [.lit (.int .i64 0)] [(0,(.t 55))]),
 oo 57 (.app 22 3 1 8 (.t 49) (.t 56)),
 oo 58 (.faddr 28 2 (.t 8) 1),
 ov (.store 22 1 (.t 58) (.t 57))] [[],[0],[],[],[2,3],[4],[5],[6],[7],[1,8,6],[0,1,2,3,4,5,6,7,8,9],[10,9,9,0,1,2,3,4,5,6,7,8,9]])) (.reg [om 46 9,
 oo 47 (.bin .add 3 0 (.t 46) (.n 1) 3),
 oo 9 (.asg (.t 47))])))
def a16:IC:=(.seq (.seq (.reg [om 74 11,
 om 75 1,
 oo 76 (.len 22 false (.t 75)),
 oo 77 (.bin .lss 3 0 (.t 74) (.t 76) 3)]) (.cond (.t 77) .skip (.exit 2))) (.seq (.block 3 (.reg [oo 80 (.faddr 33 0 (.t 10) 0),
 oo 81 (.load 31 none (.t 80)),
 oo 82 (.iaddr 31 6 (.t 81) (.n 1)),
 oo 83 (.faddr 30 3 (.t 82) 3),
 oo 84 (.faddr 28 2 (.t 83) 1),
 oo 85 (.load 22 none (.t 84)),
 om 86 11,
 oo 87 (.iaddr 22 1 (.t 85) (.t 86)),
 ov (.store 3 1 (.t 87) (.n 1))])) (.reg [om 78 11,
 oo 79 (.bin .add 3 0 (.t 78) (.n 1) 3),
 oo 11 (.asg (.t 79))])))
def a17:IC:=(.seq (.seq (.reg [om 88 13,
 om 89 0,
 oo 90 (.bin .lss 3 0 (.t 88) (.t 89) 3)]) (.cond (.t 90) .skip (.exit 4))) (.seq (.block 5 (.seq (.reg [oo 93 (.faddr 33 0 (.t 10) 0),
 oo 94 (.load 31 none (.t 93)),
 om 95 12,
 oo 96 (.bslice 22 3 1 2 [.lit (.int .i64 0)] [(0,(.t 95)),(1,(.n 1))]),
 oo 97 (.build 30 [.lit (.int .i64 0),.own 1 0 [],.own 1 0 [],.own 1 0 [],.lit (.bool false),.own 1 0 []] [(0,0,1,(.n 4)),(1,1,1,(.t 96))]),
 oo 98 (.bslice 31 30 6 1 [.lit (.int .i64 0),.own 1 0 [],.own 1 0 [],.own 1 0 [],.lit (.bool false),.own 1 0 []] [(0,(.t 97))]),
 oo 99 (.app 31 30 6 112 (.t 94) (.t 98)),
 oo 100 (.faddr 33 0 (.t 10) 0),
 ov (.store 31 1 (.t 100) (.t 99))]) (.reg [oo 101 (.faddr 33 0 (.t 10) 0),
 oo 102 (.load 31 none (.t 101)),
 oo 103 (.len 31 false (.t 102)),
 oo 104 (.bin .sub 3 0 (.t 103) (.n 1) 3),
 oo 12 (.asg (.t 104))]))) (.reg [om 91 13,
 oo 92 (.bin .add 3 0 (.t 91) (.n 1) 3),
 oo 13 (.asg (.t 92))])))
def a18:IC:=(.seq (.seq (.reg [om 138 16,
 om 139 1,
 oo 140 (.len 22 false (.t 139)),
 oo 141 (.bin .lss 3 0 (.t 138) (.t 140) 3)]) (.cond (.t 141) .skip (.exit 6))) (.seq (.block 7 (.seq (.draw [oo 144 (.faddr 28 2 (.t 14) 1),
 oo 145 (.load 22 none (.t 144)),
 om 146 16,
 oo 147 (.iaddr 22 1 (.t 145) (.t 146)),
 oo 148 (.load 3 none (.t 147)),
 oo 149 (.faddr 28 2 (.t 8) 1),
 oo 150 (.load 22 none (.t 149)),
 om 151 16,
 oo 152 (.iaddr 22 1 (.t 150) (.t 151)),
 oo 153 (.load 3 none (.t 152)),
 om 154 0,
 oo 155 (.bin .add 3 0 (.t 153) (.t 154) 3),
 oo 156 (.mm false [3,3] [(.t 155),(.n 127)]),
 om 157 2,
 oo 158 (.un .neg 3 (.t 157)),
 oo 159 (.mm true [3,3] [(.t 156),(.t 158)]),
 om 160 2,
 oo 161 (.mm false [3,3] [(.t 159),(.t 160)]),
 oo 162 (.bin .neq 3 0 (.t 148) (.t 161) 3)] [[],[0],[],[1,2],[3],[],[5],[],[6,7],[8],[],[9,10],[11],[],[13],[12,14],[],[15,16],[4,17]]) (.cond (.t 162) (.seq (.reg [oo 6 (.asg (.c (.bool false)))]) .ret) .skip))) (.reg [om 142 16,
 oo 143 (.bin .add 3 0 (.t 142) (.n 1) 3),
 oo 16 (.asg (.t 143))])))
def a4x:IC:=(.seq (.reg [oo 6 (.asg (.c (.bool false)))]) (.seq (.reg [oc 17 4 [] [],
 oo 7 (.asg (.t 17))]) (.seq (.seq (.reg [om 18 7,
 oo 19 (.un .not 4 (.t 18))]) (.cond (.t 19) (.seq (.reg [oo 6 (.asg (.c (.bool false)))]) .ret) .skip)) (.seq (.reg [om 20 0,
 oc 21 5 [(false,(.t 20)),(false,(.n 60))] [3,3],
 oo 0 (.asg (.t 21))]) (.seq (.reg [om 22 2,
 oc 23 5 [(false,(.t 22)),(false,(.n 100))] [3,3],
 oo 2 (.asg (.t 23))]) (.seq (.seq (.reg [om 24 1,
 oo 25 (.len 22 false (.t 24)),
 oo 26 (.bin .gtr 3 0 (.t 25) (.n 40) 3),
 om 27 26,
 og 28 (.mv (.t 1)) 3 27 false,
 og 29 (.len 22 false (.t 28)) 3 27 false,
 og 30 (.bin .eql 3 0 (.t 29) (.n 0) 3) 3 27 false,
 oo 31 (.pick (.t 27) (.c (.bool true)) (.t 30)),
 om 32 31,
 og 33 (.mv (.t 7)) 8 32 false,
 og 34 (.un .not 4 (.t 33)) 8 32 false,
 oo 35 (.pick (.t 32) (.c (.bool true)) (.t 34))]) (.cond (.t 35) (.seq (.reg [om 36 7,
 oo 6 (.asg (.t 36))]) .ret) .skip)) (.seq (.reg [om 37 1,
 oo 38 (.len 22 false (.t 37)),
 oo 39 (.bslice 22 3 1 1 [.lit (.int .i64 0)] [(0,(.t 38))]),
 oo 40 (.build 26 [.own 1 0 [],.lit (.bool false)] [(0,0,1,(.t 39))]),
 oo 41 (.build 28 [.own 1 0 [],.lit (.bool false),.own 1 0 []] [(0,0,2,(.t 40))]),
 oo 8 (.alloc 28 [.own 1 0 [],.lit (.bool false),.own 1 0 []]),
 ov (.store 28 3 (.t 8) (.t 41))]) (.seq (.seq (.reg [oo 9 (.asg (.n 0))]) (.block 0 (.loop a15))) (.seq (.reg [om 59 1,
 oo 60 (.len 22 false (.t 59)),
 oo 61 (.bslice 22 3 1 2 [.lit (.int .i64 0)] [(0,(.n 0)),(1,(.t 60))]),
 oo 62 (.build 30 [.lit (.int .i64 0),.own 1 0 [],.own 1 0 [],.own 1 0 [],.lit (.bool false),.own 1 0 []] [(0,0,1,(.n 1)),(2,2,1,(.t 61))]),
 om 63 1,
 oo 64 (.len 22 false (.t 63)),
 oo 65 (.bslice 22 3 1 1 [.lit (.int .i64 0)] [(0,(.t 64))]),
 oo 66 (.build 26 [.own 1 0 [],.lit (.bool false)] [(0,0,1,(.t 65))]),
 om 67 1,
 oo 68 (.len 22 false (.t 67)),
 oo 69 (.mks 22 3 1 8 [.lit (.int .i64 0)] (.t 68) (.t 68)),
 oo 70 (.build 28 [.own 1 0 [],.lit (.bool false),.own 1 0 []] [(0,0,2,(.t 66)),(1,2,1,(.t 69))]),
 oo 71 (.build 30 [.lit (.int .i64 0),.own 1 0 [],.own 1 0 [],.own 1 0 [],.lit (.bool false),.own 1 0 []] [(0,0,1,(.n 2)),(3,3,3,(.t 70))]),
 oo 72 (.bslice 31 30 6 2 [.lit (.int .i64 0),.own 1 0 [],.own 1 0 [],.own 1 0 [],.lit (.bool false),.own 1 0 []] [(0,(.t 62)),(1,(.t 71))]),
 oo 73 (.build 33 [.own 6 0 [],.lit (.int .i64 0)] [(0,0,1,(.t 72))]),
 oo 10 (.alloc 33 [.own 6 0 [],.lit (.int .i64 0)]),
 ov (.store 33 2 (.t 10) (.t 73))]) (.seq (.seq (.reg [oo 11 (.asg (.n 0))]) (.block 2 (.loop a16))) (.seq (.reg [oo 12 (.asg (.n 0))]) (.seq (.seq (.reg [oo 13 (.asg (.n 0))]) (.block 4 (.loop a17))) (.seq (.reg [oo 105 (.faddr 33 0 (.t 10) 0),
 oo 106 (.load 31 none (.t 105)),
 om 107 12,
 oo 108 (.bslice 22 3 1 1 [.lit (.int .i64 0)] [(0,(.t 107))]),
 om 109 2,
 oo 110 (.un .neg 3 (.t 109)),
 om 111 2,
 oo 112 (.bslice 22 3 1 2 [.lit (.int .i64 0)] [(0,(.t 110)),(1,(.t 111))]),
 oo 113 (.build 30 [.lit (.int .i64 0),.own 1 0 [],.own 1 0 [],.own 1 0 [],.lit (.bool false),.own 1 0 []] [(0,0,1,(.n 9)),(1,1,1,(.t 108)),(2,2,1,(.t 112))]),
 oo 114 (.bslice 31 30 6 1 [.lit (.int .i64 0),.own 1 0 [],.own 1 0 [],.own 1 0 [],.lit (.bool false),.own 1 0 []] [(0,(.t 113))]),
 oo 115 (.app 31 30 6 112 (.t 106) (.t 114)),
 oo 116 (.faddr 33 0 (.t 10) 0),
 ov (.store 31 1 (.t 116) (.t 115))]) (.seq (.reg [oo 117 (.faddr 33 0 (.t 10) 0),
 oo 118 (.load 31 none (.t 117)),
 oo 119 (.len 31 false (.t 118)),
 oo 120 (.bin .sub 3 0 (.t 119) (.n 1) 3),
 oo 121 (.faddr 33 1 (.t 10) 1),
 ov (.store 3 1 (.t 121) (.t 120))]) (.seq (.reg [oo 123 (.load 33 (some 2) (.t 10)),
 oo 124 (.load 28 (some 3) (.t 8)),
 oc 125 6 [(false,(.t 123)),(false,(.t 124)),(false,(.nl 3))] [33,28,40],
 oo 122 (.mva (.t 125)),
 oo 126 (.ext (.t 122) 0),
 oo 127 (.ext (.t 122) 1),
 oo 14 (.alloc 28 [.own 1 0 [],.lit (.bool false),.own 1 0 []]),
 ov (.store 28 3 (.t 14) (.t 126)),
 oo 15 (.asg (.t 127))]) (.seq (.seq (.reg [om 128 15,
 oo 129 (.bin .neq 35 2 (.t 128) (.c .nilIface) 35),
 om 130 129,
 og 131 (.faddr 28 2 (.t 14) 1) 2 130 false,
 og 132 (.load 22 none (.t 131)) 2 130 false,
 og 133 (.len 22 false (.t 132)) 2 130 false,
 og 134 (.mv (.t 1)) 2 130 false,
 og 135 (.len 22 false (.t 134)) 2 130 false,
 og 136 (.bin .neq 3 0 (.t 133) (.t 135) 3) 2 130 false,
 oo 137 (.pick (.t 130) (.c (.bool true)) (.t 136))]) (.cond (.t 137) (.seq (.reg [oo 6 (.asg (.c (.bool false)))]) .ret) .skip)) (.seq (.seq (.reg [oo 16 (.asg (.n 0))]) (.block 6 (.loop a18))) (.seq (.reg [oo 6 (.asg (.c (.bool true)))]) .ret))))))))))))))))))
abbrev a75:Nat:=3
theorem a6q:fnC pg 3 163 [(.tmp 6)] a4x:=a03 Go.Proofs.Tryd.f3 [(.tmp 6)] (by kernel_rfl)
@[go_sem] theorem b6t:fnB pg 3=true:=by kernel_rfl
def a5p:IC:=(.seq (.reg [oo 0 (.asg (.c (.bool false)))]) (.seq (.reg [oo 5 (.bslice 22 3 1 2 [.lit (.int .i64 0)] [(0,(.n 0)),(1,(.n 1))]),
 oo 6 (.build 30 [.lit (.int .i64 0),.own 1 0 [],.own 1 0 [],.own 1 0 [],.lit (.bool false),.own 1 0 []] [(0,0,1,(.n 1)),(2,2,1,(.t 5))]),
 oo 7 (.bslice 31 30 6 1 [.lit (.int .i64 0),.own 1 0 [],.own 1 0 [],.own 1 0 [],.lit (.bool false),.own 1 0 []] [(0,(.t 6))]),
 oo 8 (.build 33 [.own 6 0 [],.lit (.int .i64 0)] [(0,0,1,(.t 7))]),
 oo 1 (.alloc 33 [.own 6 0 [],.lit (.int .i64 0)]),
 ov (.store 33 2 (.t 1) (.t 8))]) (.seq (.reg [oo 9 (.bslice 22 3 1 1 [.lit (.int .i64 0)] [(0,(.n 1))]),
 oo 10 (.build 26 [.own 1 0 [],.lit (.bool false)] [(0,0,1,(.t 9))]),
 oo 11 (.bslice 22 3 1 1 [.lit (.int .i64 0)] [(0,(.n 4))]),
 oo 12 (.build 28 [.own 1 0 [],.lit (.bool false),.own 1 0 []] [(0,0,2,(.t 10)),(1,2,1,(.t 11))]),
 oo 2 (.alloc 28 [.own 1 0 [],.lit (.bool false),.own 1 0 []]),
 ov (.store 28 3 (.t 2) (.t 12))]) (.seq (.reg [oo 14 (.load 33 (some 2) (.t 1)),
 oo 15 (.load 28 (some 3) (.t 2)),
 oc 16 6 [(false,(.t 14)),(false,(.t 15)),(false,(.nl 3))] [33,28,40],
 oo 13 (.mva (.t 16)),
 oo 17 (.ext (.t 13) 0),
 oo 18 (.ext (.t 13) 1),
 oo 3 (.alloc 28 [.own 1 0 [],.lit (.bool false),.own 1 0 []]),
 ov (.store 28 3 (.t 3) (.t 17)),
 oo 4 (.asg (.t 18))]) (.seq (.reg [om 19 4,
 oo 20 (.bin .eql 35 2 (.t 19) (.c .nilIface) 35),
 om 21 20,
 og 22 (.load 28 (some 3) (.t 3)) 2 21 true,
 og 23 (.load 28 (some 3) (.t 2)) 2 21 true,
 ⟨(some 24),.call 7 [(false,(.t 22)),(false,(.t 23))] [28,28],(some (2,21,true))⟩,
 oo 25 (.pick (.t 21) (.t 24) (.c (.bool false))),
 oo 0 (.asg (.t 25))]) .ret)))))
abbrev a86:Nat:=4
theorem a7k:fnC pg 4 26 [(.tmp 0)] a5p:=a03 Go.Proofs.Tryd.f4 [(.tmp 0)] (by kernel_rfl)
@[go_sem] theorem b80:fnB pg 4=true:=by kernel_rfl
def c1k:IC:=(.seq (.reg [oo 3 (.box 33 2 (.t 0)),
 oo 4 (.box 28 3 (.t 1)),
 oo 6 (.alloc 28 [.own 1 0 [],.lit (.bool false),.own 1 0 []]),
 oo 7 (.asg (.c .nilIface))]) (.seq (.reg [oo 11 (.load 33 (some 2) (.t 3)),
 oo 12 (.load 28 (some 3) (.t 4)),
 om 13 2,
 oc 14 8 [(false,(.t 11)),(false,(.t 12)),(false,(.t 13))] [33,28,40],
 oo 10 (.mva (.t 14)),
 oo 15 (.ext (.t 10) 0),
 oo 16 (.ext (.t 10) 1),
 oo 8 (.asg (.t 15)),
 oo 9 (.asg (.t 16))]) (.seq (.seq (.reg [om 17 9,
 oo 18 (.bin .neq 35 2 (.t 17) (.c .nilIface) 35)]) (.cond (.t 18) (.seq (.reg [oo 19 (.build 28 [.sl 0 [],.lit (.bool false),.sl 0 []] []),
 om 20 9,
 ov (.store 28 3 (.t 6) (.t 19)),
 oo 7 (.asg (.t 20))]) .ret) .skip)) (.seq (.reg [om 21 8,
 oo 22 (.faddr 33 1 (.t 3) 1),
 oo 23 (.load 3 none (.t 22)),
 oo 24 (.iaddr 40 3 (.t 21) (.t 23)),
 oo 25 (.load 28 (some 3) (.t 24)),
 ov (.store 28 3 (.t 6) (.t 25)),
 oo 7 (.asg (.c .nilIface))]) .ret))))
abbrev b43:Nat:=6
theorem b9w:fnC pg 6 26 [(.cells 6 3),(.tmp 7)] c1k:=a03 Go.Proofs.Tryd.f6 [(.cell 6 28),(.tmp 7)] (by kernel_rfl)
@[go_sem] theorem d41:fnB pg 6=true:=by kernel_rfl
def a7y:IC:=(.seq (.reg [oo 46 (.bin .lss 3 0 (.t 45) (.t 44) 3)]) (.seq (.cond (.t 46) .skip (.exit 0)) (.seq (.block 1 (.seq (.reg [om 47 45,
 oo 48 (.iaddr 40 3 (.t 43) (.t 45)),
 oo 49 (.load 28 (some 3) (.t 48)),
 oo 12 (.alloc 28 [.own 1 0 [],.lit (.bool false),.own 1 0 []]),
 oo 11 (.asg (.t 47)),
 ov (.store 28 3 (.t 12) (.t 49))]) (.seq (.draw [oo 50 (.load 28 (some 3) (.t 12)),
 oo 51 (.faddr 47 4 (.t 8) 3),
 oo 52 (.load 45 none (.t 51)),
 om 53 11,
 oo 54 (.iaddr 45 2 (.t 52) (.t 53)),
 oo 55 (.load 26 (some 2) (.t 54)),
 oc 56 12 [(false,(.t 50)),(false,(.t 55))] [28,26],
 oo 13 (.asg (.t 56))] [[],[],[1],[],[2,3],[4],[0,5],[6,6,0,1,2,3,4,5,6]]) (.seq (.reg [om 57 13,
 oo 58 (.bin .neq 35 2 (.t 57) (.c .nilIface) 35)]) (.cond (.t 58) (.seq (.reg [om 59 13,
 oo 6 (.asg (.nl 3)),
 oo 7 (.asg (.t 59))]) .ret) .skip))))) (.reg [oo 60 (.bin .add 3 0 (.t 45) (.n 1) 3),
 om 45 60]))))
def a7z:IC:=(.seq (.reg [oo 83 (.bin .lss 3 0 (.t 82) (.t 81) 3)]) (.seq (.cond (.t 83) .skip (.exit 5)) (.seq (.block 6 (.seq (.reg [oo 84 (.iaddr 22 1 (.t 80) (.t 82)),
 oo 85 (.load 3 none (.t 84)),
 oo 20 (.asg (.t 85))]) (.reg [om 86 18,
 om 87 14,
 om 88 20,
 oo 89 (.iaddr 40 3 (.t 87) (.t 88)),
 oo 90 (.load 28 (some 3) (.t 89)),
 oo 91 (.bslice 40 28 3 1 [.own 1 0 [],.lit (.bool false),.own 1 0 []] [(0,(.t 90))]),
 oo 92 (.app 40 28 3 56 (.t 86) (.t 91)),
 oo 18 (.asg (.t 92))]))) (.reg [oo 93 (.bin .add 3 0 (.t 82) (.n 1) 3),
 om 82 93]))))
def a4b:IC:=(.seq (.reg [oo 69 (.bin .lss 3 0 (.t 68) (.t 67) 3)]) (.seq (.cond (.t 69) .skip (.exit 2)) (.seq (.block 3 (.seq (.reg [oo 70 (.iaddr 22 1 (.t 66) (.t 68)),
 oo 71 (.load 3 none (.t 70)),
 oo 16 (.asg (.t 71))]) (.seq (.reg [oo 72 (.faddr 33 0 (.t 3) 0),
 oo 73 (.load 31 none (.t 72)),
 om 74 16,
 oo 75 (.iaddr 31 6 (.t 73) (.t 74)),
 oo 76 (.load 30 (some 6) (.t 75)),
 oo 17 (.alloc 30 [.lit (.int .i64 0),.own 1 0 [],.own 1 0 [],.own 1 0 [],.lit (.bool false),.own 1 0 []]),
 ov (.store 30 6 (.t 17) (.t 76))]) (.seq (.reg [oo 77 (.faddr 30 0 (.t 17) 0),
 oo 78 (.load 3 none (.t 77))]) (.block 4 (.seq (.reg [oo 110 (.bin .eql 3 0 (.t 78) (.n 1) 3),
 oo 109 (.asg (.t 110))]) (.cond (.t 109) (.reg [om 111 14,
 om 112 16,
 oo 113 (.load 28 (some 3) (.t 4)),
 oc 114 13 [(false,(.t 113))] [28],
 oo 115 (.iaddr 40 3 (.t 111) (.t 112)),
 ov (.store 28 3 (.t 115) (.t 114))]) (.seq (.reg [oo 117 (.bin .eql 3 0 (.t 78) (.n 3) 3),
 oo 116 (.asg (.t 117))]) (.cond (.t 116) (.reg [om 118 14,
 om 119 16,
 om 120 2,
 oo 121 (.faddr 30 2 (.t 17) 2),
 oo 122 (.load 22 none (.t 121)),
 oo 123 (.iaddr 22 1 (.t 122) (.n 0)),
 oo 124 (.load 3 none (.t 123)),
 oo 125 (.iaddr 40 3 (.t 120) (.t 124)),
 oo 126 (.load 28 (some 3) (.t 125)),
 oc 127 13 [(false,(.t 126))] [28],
 oo 128 (.iaddr 40 3 (.t 118) (.t 119)),
 ov (.store 28 3 (.t 128) (.t 127))]) (.seq (.reg [oo 130 (.bin .eql 3 0 (.t 78) (.n 2) 3),
 oo 129 (.asg (.t 130))]) (.cond (.t 129) (.reg [om 131 14,
 om 132 16,
 oo 133 (.faddr 30 3 (.t 17) 3),
 oo 134 (.load 28 (some 3) (.t 133)),
 oc 135 13 [(false,(.t 134))] [28],
 oo 136 (.iaddr 40 3 (.t 131) (.t 132)),
 ov (.store 28 3 (.t 136) (.t 135))]) (.seq (.reg [oo 18 (.asg (.nl 3))]) (.seq (.seq (.reg [oo 79 (.faddr 30 1 (.t 17) 1),
 oo 80 (.load 22 none (.t 79)),
 oo 81 (.len 22 false (.t 80)),
 oo 82 (.mv (.n 0))]) (.block 5 (.loop a7z))) (.seq (.reg [om 95 14,
 om 96 16,
 oo 97 (.faddr 30 0 (.t 17) 0),
 oo 98 (.load 3 none (.t 97)),
 oo 99 (.faddr 30 2 (.t 17) 2),
 oo 100 (.load 22 none (.t 99)),
 om 101 18,
 oc 102 14 [(false,(.t 98)),(false,(.t 100)),(false,(.t 101))] [3,22,40],
 oo 94 (.mva (.t 102)),
 oo 103 (.ext (.t 94) 0),
 oo 104 (.ext (.t 94) 1),
 oo 105 (.iaddr 40 3 (.t 95) (.t 96)),
 ov (.store 28 3 (.t 105) (.t 103)),
 oo 9 (.asg (.t 104))]) (.seq (.reg [om 106 9,
 oo 107 (.bin .neq 35 2 (.t 106) (.c .nilIface) 35)]) (.cond (.t 107) (.seq (.reg [om 108 9,
 oo 6 (.asg (.nl 3)),
 oo 7 (.asg (.t 108))]) .ret) .skip)))))))))))))))) (.reg [oo 137 (.bin .add 3 0 (.t 68) (.n 1) 3),
 om 68 137]))))
def b7l:IC:=(.seq (.reg [oo 3 (.box 33 2 (.t 0)),
 oo 4 (.box 28 3 (.t 1)),
 oo 6 (.asg (.nl 3)),
 oo 7 (.asg (.c .nilIface))]) (.seq (.reg [oo 22 (.load 33 (some 2) (.t 3)),
 oc 23 11 [(false,(.t 22))] [33],
 oo 21 (.mva (.t 23)),
 oo 24 (.ext (.t 21) 0),
 oo 25 (.ext (.t 21) 1),
 oo 8 (.alloc 47 [.own 1 0 [],.own 2 0 [],.own 1 0 [],.lit (.bool false),.own 2 0 []]),
 ov (.store 47 5 (.t 8) (.t 24)),
 oo 9 (.asg (.t 25))]) (.seq (.seq (.reg [om 26 9,
 oo 27 (.bin .neq 35 2 (.t 26) (.c .nilIface) 35)]) (.cond (.t 27) (.seq (.reg [om 28 9,
 oo 6 (.asg (.nl 3)),
 oo 7 (.asg (.t 28))]) .ret) .skip)) (.seq (.seq (.reg [oo 29 (.load 28 (some 3) (.t 4)),
 oo 30 (.faddr 47 2 (.t 8) 2),
 oo 31 (.load 26 (some 2) (.t 30)),
 oc 32 12 [(false,(.t 29)),(false,(.t 31))] [28,26],
 oo 10 (.asg (.t 32))]) (.seq (.reg [om 33 10,
 oo 34 (.bin .neq 35 2 (.t 33) (.c .nilIface) 35)]) (.cond (.t 34) (.seq (.reg [om 35 10,
 oo 6 (.asg (.nl 3)),
 oo 7 (.asg (.t 35))]) .ret) .skip))) (.seq (.seq (.reg [om 36 2,
 oo 37 (.len 40 false (.t 36)),
 oo 38 (.faddr 47 4 (.t 8) 3),
 oo 39 (.load 45 none (.t 38)),
 oo 40 (.len 45 false (.t 39)),
 oo 41 (.bin .neq 3 0 (.t 37) (.t 40) 3)]) (.cond (.t 41) (.seq (.draw [oo 42 (.load 35 none (.g 0)),
 oo 6 (.asg (.nl 3)),
 oo 7 (.asg (.t 42))] [[],[],[0,1,0,1]]) .ret) .skip)) (.seq (.seq (.reg [om 43 2,
 oo 44 (.len 40 false (.t 43)),
 oo 45 (.mv (.n 0))]) (.block 0 (.loop a7y))) (.seq (.reg [oo 61 (.faddr 33 0 (.t 3) 0),
 oo 62 (.load 31 none (.t 61)),
 oo 63 (.len 31 false (.t 62)),
 oo 64 (.mks 40 28 3 56 [.sl 0 [],.lit (.bool false),.sl 0 []] (.t 63) (.t 63)),
 oo 14 (.asg (.t 64))]) (.seq (.seq (.reg [oo 65 (.faddr 47 0 (.t 8) 0),
 oo 66 (.load 22 none (.t 65)),
 oo 67 (.len 22 false (.t 66)),
 oo 68 (.mv (.n 0))]) (.block 2 (.loop a4b))) (.seq (.reg [om 138 14,
 oo 6 (.asg (.t 138)),
 oo 7 (.asg (.c .nilIface))]) .ret)))))))))
abbrev c3y:Nat:=8
theorem b7m:fnC pg 8 139 [(.tmp 6),(.tmp 7)] b7l:=a03 Go.Proofs.Tryd.f8 [(.tmp 6),(.tmp 7)] (by kernel_rfl)
@[go_sem] theorem d1p:fnB pg 8=true:=by kernel_rfl
def b37:IC:=(.seq (.reg [oo 2 (.box 28 3 (.t 0)),
 oo 3 (.box 26 2 (.t 1)),
 oo 4 (.asg (.c .nilIface))]) (.seq (.seq (.reg [oo 6 (.load 28 (some 3) (.t 2)),
 oc 7 18 [(false,(.t 6))] [28],
 oo 5 (.asg (.t 7))]) (.seq (.reg [om 8 5,
 oo 9 (.bin .neq 35 2 (.t 8) (.c .nilIface) 35)]) (.cond (.t 9) (.seq (.reg [om 10 5,
 oo 4 (.asg (.t 10))]) .ret) .skip))) (.seq (.seq (.reg [oo 11 (.faddr 28 0 (.t 2) 0),
 oo 12 (.load 26 (some 2) (.t 11)),
 oo 13 (.load 26 (some 2) (.t 3)),
 oc 14 19 [(false,(.t 12)),(false,(.t 13))] [26,26],
 oo 15 (.un .not 4 (.t 14))]) (.cond (.t 15) (.seq (.reg [oo 16 (.load 35 none (.g 0)),
 oo 4 (.asg (.t 16))]) .ret) .skip)) (.seq (.reg [oo 4 (.asg (.c .nilIface))]) .ret))))
abbrev c2b:Nat:=12
theorem b5l:fnC pg 12 17 [(.tmp 4)] b37:=a03 Go.Proofs.Tryd.f12 [(.tmp 4)] (by kernel_rfl)
@[go_sem] theorem c95:fnB pg 12=true:=by kernel_rfl
def a6s:IC:=(.seq (.reg [oo 34 (.bin .lss 3 0 (.t 33) (.t 32) 3)]) (.seq (.cond (.t 34) .skip (.exit 0)) (.seq (.block 1 (.seq (.reg [om 35 33,
 oo 13 (.asg (.t 35))]) (.draw [oo 36 (.faddr 28 2 (.t 11) 1),
 oo 37 (.load 22 none (.t 36)),
 om 38 0,
 om 39 1,
 om 40 13,
 oo 41 (.load 26 (some 2) (.t 8)),
 om 42 9,
 om 43 12,
 oc 44 25 [(false,(.t 38)),(false,(.t 39)),(false,(.t 40)),(false,(.t 41)),(false,(.t 42)),(false,(.t 43))] [3,22,3,26,45,68],
 oo 45 (.bslice 22 3 1 1 [.lit (.int .i64 0)] [(0,(.t 44))]),
 oo 46 (.app 22 3 1 8 (.t 37) (.t 45)),
 oo 47 (.faddr 28 2 (.t 11) 1),
 ov (.store 22 1 (.t 47) (.t 46))] [[],[0],[],[],[],[],[],[],[2,3,4,5,6,7],[8],[1,9,8],[0,1,2,3,4,5,6,7,8,9,10],[11,10,10,0,1,2,3,4,5,6,7,8,9,10]]))) (.reg [oo 48 (.bin .add 3 0 (.t 33) (.n 1) 3),
 om 33 48]))))
def b4n:IC:=(.seq (.reg [oo 6 (.alloc 28 [.own 1 0 [],.lit (.bool false),.own 1 0 []]),
 oo 7 (.asg (.c .nilIface))]) (.seq (.reg [om 15 0,
 om 16 1,
 om 17 2,
 oc 18 22 [(false,(.t 15)),(false,(.t 16)),(false,(.t 17))] [3,22,40],
 oo 14 (.mva (.t 18)),
 oo 19 (.ext (.t 14) 0),
 oo 20 (.ext (.t 14) 1),
 oo 21 (.ext (.t 14) 2),
 oo 8 (.alloc 26 [.own 1 0 [],.lit (.bool false)]),
 ov (.store 26 2 (.t 8) (.t 19)),
 oo 9 (.asg (.t 20)),
 oo 10 (.asg (.t 21))]) (.seq (.seq (.reg [om 22 10,
 oo 23 (.bin .neq 35 2 (.t 22) (.c .nilIface) 35)]) (.cond (.t 23) (.seq (.reg [oo 24 (.build 28 [.sl 0 [],.lit (.bool false),.sl 0 []] []),
 om 25 10,
 ov (.store 28 3 (.t 6) (.t 24)),
 oo 7 (.asg (.t 25))]) .ret) .skip)) (.seq (.reg [oo 26 (.load 26 (some 2) (.t 8)),
 oo 27 (.build 28 [.own 1 0 [],.lit (.bool false),.own 1 0 []] [(0,0,2,(.t 26))]),
 oo 11 (.alloc 28 [.own 1 0 [],.lit (.bool false),.own 1 0 []]),
 ov (.store 28 3 (.t 11) (.t 27))]) (.seq (.reg [om 28 2,
 oc 29 23 [(false,(.t 28))] [40],
 oo 12 (.asg (.t 29))]) (.seq (.seq (.reg [oo 30 (.faddr 26 0 (.t 8) 0),
 oo 31 (.load 22 none (.t 30)),
 oc 32 24 [(false,(.t 31))] [22],
 oo 33 (.mv (.n 0))]) (.block 0 (.loop a6s))) (.seq (.reg [oo 49 (.load 28 (some 3) (.t 11)),
 ov (.store 28 3 (.t 6) (.t 49)),
 oo 7 (.asg (.c .nilIface))]) .ret)))))))
abbrev c2c:Nat:=14
theorem b56:fnC pg 14 50 [(.cells 6 3),(.tmp 7)] b4n:=a03 Go.Proofs.Tryd.f14 [(.cell 6 28),(.tmp 7)] (by kernel_rfl)
@[go_sem] theorem d0i:fnB pg 14=true:=by kernel_rfl
def a5r:IC:=(.seq (.reg [oo 18 (.bin .lss 3 0 (.t 17) (.t 16) 3)]) (.seq (.cond (.t 18) .skip (.exit 0)) (.seq (.block 1 (.seq (.reg [oo 19 (.iaddr 40 3 (.t 15) (.t 17)),
 oo 20 (.load 28 (some 3) (.t 19)),
 oo 11 (.alloc 28 [.own 1 0 [],.lit (.bool false),.own 1 0 []]),
 ov (.store 28 3 (.t 11) (.t 20))]) (.seq (.seq (.reg [oo 21 (.load 28 (some 3) (.t 11)),
 oc 22 18 [(false,(.t 21))] [28],
 oo 12 (.asg (.t 22))]) (.seq (.reg [om 23 12,
 oo 24 (.bin .neq 35 2 (.t 23) (.c .nilIface) 35)]) (.cond (.t 24) (.seq (.reg [oo 25 (.build 26 [.sl 0 [],.lit (.bool false)] []),
 om 26 12,
 ov (.store 26 2 (.t 6) (.t 25)),
 oo 7 (.asg (.nl 2)),
 oo 8 (.asg (.t 26))]) .ret) .skip))) (.reg [om 27 9,
 oo 28 (.faddr 28 0 (.t 11) 0),
 oo 29 (.load 26 (some 2) (.t 28)),
 oo 30 (.bslice 45 26 2 1 [.own 1 0 [],.lit (.bool false)] [(0,(.t 29))]),
 oo 31 (.app 45 26 2 32 (.t 27) (.t 30)),
 oo 9 (.asg (.t 31))])))) (.reg [oo 32 (.bin .add 3 0 (.t 17) (.n 1) 3),
 om 17 32]))))
def a80:IC:=(.seq (.reg [oo 6 (.alloc 26 [.own 1 0 [],.lit (.bool false)]),
 oo 7 (.asg (.nl 2)),
 oo 8 (.asg (.c .nilIface))]) (.seq (.reg [oo 9 (.asg (.nl 2))]) (.seq (.seq (.reg [om 15 2,
 oo 16 (.len 40 false (.t 15)),
 oo 17 (.mv (.n 0))]) (.block 0 (.loop a5r))) (.seq (.reg [om 34 0,
 om 35 1,
 om 36 9,
 oc 37 28 [(false,(.t 34)),(false,(.t 35)),(false,(.t 36))] [3,22,45],
 oo 33 (.mva (.t 37)),
 oo 38 (.ext (.t 33) 0),
 oo 39 (.ext (.t 33) 1),
 oo 13 (.alloc 26 [.own 1 0 [],.lit (.bool false)]),
 ov (.store 26 2 (.t 13) (.t 38)),
 oo 14 (.asg (.t 39))]) (.seq (.reg [oo 40 (.load 26 (some 2) (.t 13)),
 om 41 9,
 om 42 14,
 ov (.store 26 2 (.t 6) (.t 40)),
 oo 7 (.asg (.t 41)),
 oo 8 (.asg (.t 42))]) .ret)))))
abbrev b86:Nat:=22
theorem a8f:fnC pg 22 43 [(.cells 6 2),(.tmp 7),(.tmp 8)] a80:=a03 Go.Proofs.Tryd.f22 [(.cell 6 26),(.tmp 7),(.tmp 8)] (by kernel_rfl)
@[go_sem] theorem c89:fnB pg 22=true:=by kernel_rfl
def a6t:IC:=(.seq (.reg [oo 9 (.bin .lss 3 0 (.t 8) (.t 7) 3)]) (.seq (.cond (.t 9) .skip (.exit 0)) (.seq (.block 1 (.seq (.reg [oo 10 (.iaddr 40 3 (.t 6) (.t 8)),
 oo 11 (.load 28 (some 3) (.t 10)),
 oo 5 (.alloc 28 [.own 1 0 [],.lit (.bool false),.own 1 0 []]),
 ov (.store 28 3 (.t 5) (.t 11))]) (.reg [om 12 3,
 oo 13 (.mkz 35 [] [(.t 5)]),
 oo 14 (.bslice 68 81 1 1 [.lit .nilFunc] [(0,(.t 13))]),
 oo 15 (.app 68 81 1 8 (.t 12) (.t 14)),
 oo 3 (.asg (.t 15))]))) (.reg [oo 16 (.bin .add 3 0 (.t 8) (.n 1) 3),
 om 8 16]))))
def b4q:IC:=(.seq (.reg [oo 2 (.asg (.nl 1))]) (.seq (.reg [oo 3 (.asg (.nl 1))]) (.seq (.seq (.reg [om 6 0,
 oo 7 (.len 40 false (.t 6)),
 oo 8 (.mv (.n 0))]) (.block 0 (.loop a6t))) (.seq (.reg [om 17 3,
 oo 2 (.asg (.t 17))]) .ret))))
abbrev c2e:Nat:=23
theorem b59:fnC pg 23 18 [(.tmp 2)] b4q:=a03 Go.Proofs.Tryd.f23 [(.tmp 2)] (by kernel_rfl)
@[go_sem] theorem d0k:fnB pg 23=true:=by kernel_rfl
def c0p:IC:=(.seq (.reg [oo 9 (.box 26 2 (.t 3)),
 oo 12 (.asg (.n 0))]) (.seq (.reg [om 17 4,
 oo 18 (.iaddr 45 2 (.t 17) (.n 0)),
 oo 19 (.faddr 26 0 (.t 18) 0),
 oo 20 (.load 22 none (.t 19)),
 oo 13 (.asg (.t 20))]) (.seq (.seq (.reg [om 21 0]) (.block 0 (.seq (.reg [oo 23 (.bin .eql 3 0 (.t 21) (.n 12) 3),
 oo 22 (.asg (.t 23))]) (.cond (.t 22) (.seq (.draw [om 24 13,
 oo 25 (.iaddr 22 1 (.t 24) (.n 1)),
 oo 26 (.load 3 none (.t 25)),
 om 27 4,
 oo 28 (.iaddr 45 2 (.t 27) (.n 1)),
 oo 29 (.faddr 26 0 (.t 28) 0),
 oo 30 (.load 22 none (.t 29)),
 oo 31 (.iaddr 22 1 (.t 30) (.n 1)),
 oo 32 (.load 3 none (.t 31)),
 om 33 5,
 oo 34 (.iaddr 68 1 (.t 33) (.n 0)),
 oo 35 (.load 81 none (.t 34)),
 om 36 5,
 oo 37 (.iaddr 68 1 (.t 36) (.n 1)),
 oo 38 (.load 81 none (.t 37)),
 om 39 1,
 oo 40 (.iaddr 22 1 (.t 39) (.n 0)),
 oo 41 (.load 3 none (.t 40)),
 om 42 1,
 oo 43 (.iaddr 22 1 (.t 42) (.n 1)),
 oo 44 (.load 3 none (.t 43)),
 om 45 2,
 ⟨(some 46),.callx (.f 37) [(false,(.t 26)),(false,(.t 32)),(false,(.t 41)),(false,(.t 44)),(false,(.t 45))] [.p 0,.p 1,.x (.t 35),.x (.t 38),.p 2,.p 3,.p 4] [3,3,81,81,3,3,3],none⟩,
 oo 12 (.asg (.t 46))] [[],[0],[1],[],[3],[4],[5],[6],[7],[],[9],[10],[],[12],[13],[],[15],[16],[],[18],[19],[],[2,8,11,14,17,20,21],[22,22,0,1,2,3,4,5,6,7,8,9,10,11,12,13,14,15,16,17,18,19,20,21,22]]) .ret) (.seq (.reg [oo 48 (.bin .eql 3 0 (.t 21) (.n 13) 3),
 oo 47 (.asg (.t 48))]) (.cond (.t 47) (.seq (.draw [om 49 1,
 om 50 13,
 om 51 4,
 oo 52 (.iaddr 45 2 (.t 51) (.n 1)),
 oo 53 (.faddr 26 0 (.t 52) 0),
 oo 54 (.load 22 none (.t 53)),
 om 55 5,
 oo 56 (.iaddr 68 1 (.t 55) (.n 0)),
 oo 57 (.load 81 none (.t 56)),
 om 58 5,
 oo 59 (.iaddr 68 1 (.t 58) (.n 1)),
 oo 60 (.load 81 none (.t 59)),
 om 61 2,
 oo 62 (.faddr 26 0 (.t 9) 0),
 oo 63 (.load 22 none (.t 62)),
 oo 64 (.iaddr 22 1 (.t 63) (.n 1)),
 oo 65 (.load 3 none (.t 64)),
 ⟨(some 66),.callx (.f 38) [(false,(.t 49)),(false,(.t 50)),(false,(.t 54)),(false,(.t 61)),(false,(.t 65))] [.p 0,.p 1,.p 2,.x (.t 57),.x (.t 60),.p 3,.p 4] [22,22,22,81,81,3,3],none⟩,
 oo 12 (.asg (.t 66))] [[],[],[],[2],[3],[4],[],[6],[7],[],[9],[10],[],[],[13],[14],[15],[0,1,5,8,11,12,16],[17,17,0,1,2,3,4,5,6,7,8,9,10,11,12,13,14,15,16,17]]) .ret) (.seq (.seq (.reg [oo 68 (.bin .eql 3 0 (.t 21) (.n 14) 3),
 oo 67 (.asg (.t 68))]) (.cond (.t 67) .skip (.reg [oo 69 (.bin .eql 3 0 (.t 21) (.n 15) 3),
 oo 67 (.asg (.t 69))]))) (.cond (.t 67) (.seq (.draw [om 70 0,
 oo 71 (.bin .eql 3 0 (.t 70) (.n 15) 3),
 om 72 1,
 om 73 13,
 om 74 5,
 oo 75 (.iaddr 68 1 (.t 74) (.n 0)),
 oo 76 (.load 81 none (.t 75)),
 om 77 2,
 oo 78 (.faddr 26 0 (.t 9) 0),
 oo 79 (.load 22 none (.t 78)),
 oo 80 (.iaddr 22 1 (.t 79) (.n 1)),
 oo 81 (.load 3 none (.t 80)),
 ⟨(some 82),.callx (.f 39) [(false,(.t 71)),(false,(.t 72)),(false,(.t 73)),(false,(.t 77)),(false,(.t 81))] [.p 0,.p 1,.p 2,.x (.t 76),.p 3,.p 4] [4,22,22,81,3,3],none⟩,
 oo 12 (.asg (.t 82))] [[],[0],[],[],[],[4],[5],[],[],[8],[9],[10],[1,2,3,6,7,11],[12,12,0,1,2,3,4,5,6,7,8,9,10,11,12]]) .ret) (.seq (.seq (.reg [oo 84 (.bin .eql 3 0 (.t 21) (.n 16) 3),
 oo 83 (.asg (.t 84))]) (.cond (.t 83) .skip (.seq (.reg [oo 85 (.bin .eql 3 0 (.t 21) (.n 19) 3),
 oo 83 (.asg (.t 85))]) (.cond (.t 83) .skip (.seq (.reg [oo 86 (.bin .eql 3 0 (.t 21) (.n 20) 3),
 oo 83 (.asg (.t 86))]) (.cond (.t 83) .skip (.reg [oo 87 (.bin .eql 3 0 (.t 21) (.n 17) 3),
 oo 83 (.asg (.t 87))]))))))) (.cond (.t 83) (.seq (.reg [om 88 0,
 om 89 2,
 om 90 4,
 om 91 5,
 oc 92 40 [(false,(.t 88)),(false,(.t 89)),(false,(.t 90)),(false,(.t 91))] [3,3,45,68],
 oo 12 (.asg (.t 92))]) .ret) (.seq (.reg [oo 94 (.bin .eql 3 0 (.t 21) (.n 18) 3),
 oo 93 (.asg (.t 94))]) (.cond (.t 93) (.seq (.reg [om 95 5,
 oo 96 (.iaddr 68 1 (.t 95) (.n 0)),
 oo 97 (.load 81 none (.t 96)),
 om 98 2,
 ⟨(some 99),.callx (.t 97) [(false,(.t 98))] [.p 0] [3],none⟩,
 oo 12 (.asg (.t 99))]) .ret) (.seq (.reg [oo 101 (.bin .eql 3 0 (.t 21) (.n 21) 3),
 oo 100 (.asg (.t 101))]) (.cond (.t 100) (.seq (.draw [om 102 13,
 oo 103 (.iaddr 22 1 (.t 102) (.n 0)),
 oo 104 (.load 3 none (.t 103)),
 om 105 13,
 oo 106 (.iaddr 22 1 (.t 105) (.n 1)),
 oo 107 (.load 3 none (.t 106)),
 oo 14 (.asg (.t 104)),
 oo 15 (.asg (.t 107))] [[],[0],[1],[],[3],[4],[2,0,1,2],[5,6,0,1,2,3,4,5,6]]) (.seq (.draw [om 108 5,
 oo 109 (.iaddr 68 1 (.t 108) (.n 0)),
 oo 110 (.load 81 none (.t 109)),
 om 111 2,
 om 112 14,
 oo 113 (.bin .rem 3 0 (.t 111) (.t 112) 3),
 om 114 15,
 oo 115 (.bin .mul 3 0 (.t 113) (.t 114) 3),
 om 116 2,
 om 117 14,
 oo 118 (.bin .quo 3 0 (.t 116) (.t 117) 3),
 oo 119 (.bin .add 3 0 (.t 115) (.t 118) 3),
 ⟨(some 120),.callx (.t 110) [(false,(.t 119))] [.p 0] [3],none⟩,
 oo 12 (.asg (.t 120))] [[],[0],[1],[],[],[3,4],[],[5,6],[],[],[8,9],[7,10],[2,11],[12,12,0,1,2,3,4,5,6,7,8,9,10,11,12]]) .ret)) .skip)))))))))))))) (.seq (.reg [oo 16 (.asg (.n 0))]) (.seq (.seq (.reg [om 121 5,
 oo 122 (.len 68 false (.t 121)),
 oo 123 (.bin .gtr 3 0 (.t 122) (.n 1) 3)]) (.cond (.t 123) (.reg [om 124 5,
 oo 125 (.iaddr 68 1 (.t 124) (.n 1)),
 oo 126 (.load 81 none (.t 125)),
 om 127 2,
 ⟨(some 128),.callx (.t 126) [(false,(.t 127))] [.p 0] [3],none⟩,
 oo 16 (.asg (.t 128))]) .skip)) (.seq (.draw [om 129 0,
 om 130 4,
 oo 131 (.iaddr 45 2 (.t 130) (.n 0)),
 oo 132 (.faddr 26 1 (.t 131) 1),
 oo 133 (.load 4 none (.t 132)),
 om 134 5,
 oo 135 (.iaddr 68 1 (.t 134) (.n 0)),
 oo 136 (.load 81 none (.t 135)),
 om 137 2,
 ⟨(some 138),.callx (.t 136) [(false,(.t 137))] [.p 0] [3],none⟩,
 om 139 16,
 om 140 1,
 oc 141 41 [(false,(.t 129)),(false,(.t 133)),(false,(.t 138)),(false,(.t 139)),(false,(.t 140))] [3,4,3,3,22],
 oo 12 (.asg (.t 141))] [[],[],[1],[2],[3],[],[5],[6],[],[7,8],[],[],[0,4,9,10,11,9],[12,12,0,1,2,3,4,5,6,7,8,9,10,11,12]]) .ret))))))
abbrev b45:Nat:=25
theorem b4o:fnC pg 25 142 [(.tmp 12)] c0p:=a03 Go.Proofs.Tryd.f25 [(.tmp 12)] (by kernel_rfl)
@[go_sem] theorem e2w:fnB pg 25=true:=by kernel_rfl
def b07:IC:=(.seq (.reg [oo 3 (.asg (.n 0))]) (.seq (.reg [oo 4 (.faddr 28 2 (.t 1) 1),
 oo 5 (.load 22 none (.t 4)),
 om 6 0,
 oo 7 (.iaddr 22 1 (.t 5) (.t 6)),
 oo 8 (.load 3 none (.t 7)),
 oo 3 (.asg (.t 8))]) .ret))
abbrev b0u:Nat:=35
@[go_sem] theorem c66:fnB pg 35=true:=by kernel_rfl
theorem b1n:fnX pg 35 9 [(.tmp 3)] [(.tmp 3)] b07:=c1p Go.Proofs.Tryd.f35 (by kernel_rfl)
def a2k:IC:=(.seq (.reg [oo 10 (.asg (.n 0))]) (.seq (.seq (.reg [om 15 0,
 oc 16 57 [(false,(.t 15))] [3],
 oo 14 (.mva (.t 16)),
 oo 17 (.ext (.t 14) 0),
 oo 18 (.ext (.t 14) 1),
 oo 19 (.ext (.t 14) 2),
 oo 11 (.asg (.t 17)),
 oo 12 (.asg (.t 18)),
 oo 13 (.asg (.t 19))]) (.seq (.reg [om 20 4,
 oo 21 (.len 22 false (.t 20)),
 om 22 12,
 oo 23 (.bin .lss 3 0 (.t 21) (.t 22) 3)]) (.cond (.t 23) (.seq (.reg [oo 10 (.asg (.n 0))]) .ret) .skip))) (.seq (.seq (.reg [om 24 0]) (.block 0 (.seq (.reg [oo 26 (.bin .eql 3 0 (.t 24) (.n 4) 3),
 oo 25 (.asg (.t 26))]) (.cond (.t 25) (.seq (.reg [om 27 2,
 om 28 3,
 oo 29 (.bin .add 3 0 (.t 27) (.t 28) 3),
 om 30 1,
 oc 31 58 [(false,(.t 29)),(false,(.t 30))] [3,4],
 oo 10 (.asg (.t 31))]) .ret) (.seq (.reg [oo 33 (.bin .eql 3 0 (.t 24) (.n 5) 3),
 oo 32 (.asg (.t 33))]) (.cond (.t 32) (.seq (.reg [om 34 2,
 om 35 3,
 oo 36 (.bin .sub 3 0 (.t 34) (.t 35) 3),
 om 37 1,
 oc 38 58 [(false,(.t 36)),(false,(.t 37))] [3,4],
 oo 10 (.asg (.t 38))]) .ret) (.seq (.reg [oo 40 (.bin .eql 3 0 (.t 24) (.n 6) 3),
 oo 39 (.asg (.t 40))]) (.cond (.t 39) (.seq (.reg [om 41 2,
 om 42 3,
 oo 43 (.bin .mul 3 0 (.t 41) (.t 42) 3),
 om 44 1,
 oc 45 58 [(false,(.t 43)),(false,(.t 44))] [3,4],
 oo 10 (.asg (.t 45))]) .ret) (.seq (.reg [oo 47 (.bin .eql 3 0 (.t 24) (.n 7) 3),
 oo 46 (.asg (.t 47))]) (.cond (.t 46) (.seq (.reg [om 48 2,
 om 49 3,
 oo 50 (.mm true [3,3] [(.t 48),(.t 49)]),
 oo 10 (.asg (.t 50))]) .ret) (.seq (.reg [oo 52 (.bin .eql 3 0 (.t 24) (.n 8) 3),
 oo 51 (.asg (.t 52))]) (.cond (.t 51) (.seq (.reg [om 53 2,
 oo 54 (.mm true [3,3] [(.t 53),(.n 0)]),
 oo 10 (.asg (.t 54))]) .ret) (.seq (.reg [oo 56 (.bin .eql 3 0 (.t 24) (.n 9) 3),
 oo 55 (.asg (.t 56))]) (.cond (.t 55) (.seq (.draw [om 57 4,
 oo 58 (.iaddr 22 1 (.t 57) (.n 0)),
 oo 59 (.load 3 none (.t 58)),
 om 60 2,
 om 61 4,
 oo 62 (.iaddr 22 1 (.t 61) (.n 1)),
 oo 63 (.load 3 none (.t 62)),
 oo 64 (.mm false [3,3] [(.t 60),(.t 63)]),
 oo 65 (.mm true [3,3] [(.t 59),(.t 64)]),
 oo 10 (.asg (.t 65))] [[],[0],[1],[],[],[4],[5],[3,6],[2,7],[8,0,1,2,3,4,5,6,7,8]]) .ret) (.seq (.reg [oo 67 (.bin .eql 3 0 (.t 24) (.n 10) 3),
 oo 66 (.asg (.t 67))]) (.cond (.t 66) (.seq (.draw [om 68 2,
 om 69 4,
 oo 70 (.iaddr 22 1 (.t 69) (.n 0)),
 oo 71 (.load 3 none (.t 70)),
 om 72 4,
 oo 73 (.iaddr 22 1 (.t 72) (.n 1)),
 oo 74 (.load 3 none (.t 73)),
 om 75 4,
 oo 76 (.iaddr 22 1 (.t 75) (.n 2)),
 oo 77 (.load 3 none (.t 76)),
 oc 78 59 [(false,(.t 68)),(false,(.t 71)),(false,(.t 74)),(false,(.t 77))] [3,3,3,3],
 oo 10 (.asg (.t 78))] [[],[],[1],[2],[],[4],[5],[],[7],[8],[0,3,6,9],[10,10,0,1,2,3,4,5,6,7,8,9,10]]) .ret) (.seq (.reg [oo 80 (.bin .eql 3 0 (.t 24) (.n 11) 3),
 oo 79 (.asg (.t 80))]) (.cond (.t 79) (.seq (.reg [om 81 2,
 om 82 4,
 oo 83 (.iaddr 22 1 (.t 82) (.n 0)),
 oo 84 (.load 3 none (.t 83)),
 oo 85 (.bin .sub 3 0 (.t 81) (.t 84) 3),
 oo 10 (.asg (.t 85))]) .ret) .skip)))))))))))))))))) (.seq (.reg [oo 10 (.asg (.n 0))]) .ret))))
abbrev b6v:Nat:=41
theorem b2b:fnC pg 41 86 [(.tmp 10)] a2k:=a03 Go.Proofs.Tryd.f41 [(.tmp 10)] (by kernel_rfl)
@[go_sem] theorem c6z:fnB pg 41=true:=by kernel_rfl
def a8s:IC:=(.seq (.reg [oo 4 (.asg (.n 0))]) (.seq (.seq (.reg [om 5 1]) (.cond (.t 5) (.seq (.reg [om 6 0,
 oc 7 53 [(false,(.t 6))] [3],
 oo 4 (.asg (.t 7))]) .ret) .skip)) (.seq (.reg [om 8 0,
 oc 9 61 [(false,(.t 8))] [3],
 oo 4 (.asg (.t 9))]) .ret)))
abbrev b84:Nat:=58
theorem b3t:fnC pg 58 10 [(.tmp 4)] a8s:=a03 Go.Proofs.Tryd.f58 [(.tmp 4)] (by kernel_rfl)
@[go_sem] theorem c72:fnB pg 58=true:=by kernel_rfl
def f5f (n:Int):Int:=IntKind.i64.wrap (IntKind.i32.wrap (IntKind.u32.wrap (IntKind.u64.wrap n)))
def c0c (n:Int) (w:Bool):Int:=if w=true then f5f n else max (min n 127) (-128)
def c1m (op:Int):Bool:=decide (4<=op/\op<=9)||decide (op=11)
def c07 (op:Int) (w:Bool) (x y:Int) (args:List Int):Int:=
 if op=4 then c0c (x+y) w
 else if op=5 then c0c (x - y) w
 else if op=6 then c0c (x*y) w
 else if op=7 then max x y
 else if op=8 then max x 0
 else if op=9 then max args[0]! (min x args[1]!)
 else x - args[0]!
def tOk (t:Tn):Bool:=(a44 t.shape t.wide t.data).isNil
def tnD (t:Tn):Ds:=⟨t.shape,t.wide⟩
def a77 (ins:List Tn) (k i:Nat):Int:=if k < ins.length then (ins[k]!).data[i]! else 0
def b68 (op:Int) (args:List Int) (ins:List Tn):Option Tn:=
 if ins.all tOk=true/\(opR op args (ins.map tnD)).2.isNil=true/\c1m op=true then
  some ⟨(opR op args (ins.map tnD)).1.shape,(opR op args (ins.map tnD)).1.wide,(List.range (a2h (opR op args (ins.map tnD)).1.shape).toNat).map fun i=>c07 op (ins[0]!).wide (a77 ins 0 i) (a77 ins 1 i) args⟩
 else none
def b5x (t:Tn) (d:Ds):Er:=if tOk t=true then (if tnD t=d then .nil else .s 6) else a44 t.shape t.wide t.data
def c3s (g:Gr) (inn:Tn) (ws:List Tn) (out:List Tn) (i:Int):Option Tn:=
 let n:=g.nodes[i.toNat]!
 if n.op=1 then some inn
 else if n.op=3 then some ws[(n.args[0]!).toNat]!
 else if n.op=2 then some ⟨n.shape,n.wide,n.data⟩
 else b68 n.op n.args (n.ins.map fun k=>out[k.toNat]!)
def tn0:Tn:=⟨[],false,[]⟩
def b6o:List Tn->List Ds->Er
 | t::ts,d::ds=>if (b5x t d).isNil=true then b6o ts ds else b5x t d
 | _,_=> .nil
def c1c (s:Sn) (inn:Tn) (ws:List Tn):Er:=
 if (b5x inn s.hin).isNil=true then (if ws.length=s.ws.length then b6o ws s.ws else .s 6) else b5x inn s.hin
end Go.Ideal.Tryd
end
section
namespace Go.Ideal.Tryd
attribute [local go_sem] eD
section
variable {G:GG} {bk:Nat->Nat×Nat} {Q:Exit->St->Prop} {st:St}
theorem f6e (n:Int):ACalls pg G b87 [li n] (li (f5f n)):=by
 refine b3w rfl ?_
 simp (disch:=omega) [go_sem,b3g,f5f]
theorem d2i (n:Int) (w:Bool):ACalls pg G b84 [li n,lb w] (li (c0c n w)):=by
 refine b3t rfl ?_
 cases w
 ·simp (disch:=omega) [go_sem,a8s]
  refine a0g (b2p n) rfl rfl ?_
  simp (disch:=omega) [go_sem,c0c]
 ·simp (disch:=omega) [go_sem,a8s]
  refine a0g (f6e n) rfl rfl ?_
  simp (disch:=omega) [go_sem,c0c]
theorem b0y {op:Int} (h:c1m op=true):op=4\/op=5\/op=6\/op=7\/op=8\/op=9\/op=11:=by
 simp only [c1m,Bool.or_eq_true,decide_eq_true_eq] at h
 omega
def b0d (op:Int):Nat:=if op=9 then 2 else if op=11 then 1 else 0
theorem d0u (op:Int) (w:Bool) (x y:Int) (args:List Int) (ho:c1m op=true) (ha:args.length=b0d op) (hx: -2147483648<=x/\x<=2147483647) (hy: -2147483648<=y/\y<=2147483647) (har:∀ a∈args,-2147483648<=a/\a<=2147483647) :
  ACalls pg G b6v [li op,lb w,li x,li y,slI args] (li (c07 op w x y args)):=by
 have hxy: -4611686018427387904<=x*y/\x*y<=4611686018427387904:=by
  have h1:x.natAbs<=2147483648:=by omega
  have h2:y.natAbs<=2147483648:=by omega
  have h3:(x*y).natAbs<=2147483648*2147483648:=by rw [Int.natAbs_mul]; exact Nat.mul_le_mul h1 h2
  omega
 refine b2b rfl ?_
 have hc:=a3y (G:=G) op (by rcases b0y ho with rfl | rfl | rfl | rfl | rfl | rfl | rfl<;>omega)
 rcases b0y ho with rfl | rfl | rfl | rfl | rfl | rfl | rfl
 ·simp only [b0d] at ha
  simp (disch:=omega) [go_sem,a2k]
  refine a0g hc rfl rfl ?_
  simp (disch:=omega) [go_sem,a1n,a2b]
  refine a0g (d2i (x+y) w) rfl rfl ?_
  simp (disch:=omega) [go_sem,c07]
 ·simp only [b0d] at ha
  simp (disch:=omega) [go_sem,a2k]
  refine a0g hc rfl rfl ?_
  simp (disch:=omega) [go_sem,a1n,a2b]
  refine a0g (d2i (x - y) w) rfl rfl ?_
  simp (disch:=omega) [go_sem,c07]
 ·simp only [b0d] at ha
  simp (disch:=omega) [go_sem,a2k]
  refine a0g hc rfl rfl ?_
  simp (disch:=omega) [go_sem,a1n,a2b]
  refine a0g (d2i (x*y) w) rfl rfl ?_
  simp (disch:=omega) [go_sem,c07]
 ·simp only [b0d] at ha
  simp (disch:=omega) [go_sem,a2k]
  refine a0g hc rfl rfl ?_
  simp (disch:=omega) [go_sem,a1n,a2b,c07]
  (repeat' split)<;>omega
 ·simp only [b0d] at ha
  simp (disch:=omega) [go_sem,a2k]
  refine a0g hc rfl rfl ?_
  simp (disch:=omega) [go_sem,a1n,a2b,c07]
  (repeat' split)<;>omega
 ·simp only [b0d] at ha
  obtain ⟨a,b,rfl⟩:∃ a b,args=[a,b]:=by
   match args,ha with
   | [a,b],_=>exact ⟨a,b,rfl⟩
  simp (disch:=omega) [go_sem,a2k]
  refine a0g hc rfl rfl ?_
  simp (disch:=omega) [go_sem,a1n,a2b]
  refine a0b ?_
  simp (disch:=omega) [go_sem]
  refine a0d (by decide) fun s2 hs2 hep=> ?_
  simp (disch:=omega) [go_sem,hs2,c07]
  (repeat' split)<;>omega
 ·simp only [b0d] at ha
  obtain ⟨a,rfl⟩:∃ a,args=[a]:=by
   match args,ha with
   | [a],_=>exact ⟨a,rfl⟩
  have:=har a (by simp)
  simp (disch:=omega) [go_sem,a2k]
  refine a0g hc rfl rfl ?_
  simp (disch:=omega) [go_sem,a1n,a2b,c07]
def fnT (t:Tn):AV:= .fn b0u [] [.ip (eT t) 0]
theorem d27 (t:Tn) (i:Nat) (h:i < t.data.length):ACallsX pg G b0u [li i,.ip (eT t) 0] (li t.data[i]) []:=by
 refine b1n (pins:=[]) (by kernel_rfl) rfl rfl rfl rfl ?_
 simp (disch:=omega) [go_sem,b07,eT,h]
theorem c9f {ts:List Tn} (hl:ts.length < 2 ^ 36) (h:st.s 2= .own 1 0 []/\st.s 3= .own 1 0 []/\st.s 6=slT ts/\st.s 7=li ts.length/\st.s 8=li 0)
  (hex:∀ s:St,s.s 2= .own 1 0 []/\s.s 3= .own 1 ts.length (ts.map fnT)->Q (.exit 0) s):AW pg G 18 (.loop a6t) Q st:=by
 refine a1c Nat (fun j st=>j<=ts.length/\st.s 2= .own 1 0 []/\st.s 3= .own 1 j ((ts.take j).map fnT)/\st.s 6=slT ts/\st.s 7=li ts.length/\st.s 8=li j) (fun j=>ts.length - j) 0 ⟨by omega,by simpa using h⟩ ?_
 clear h
 rintro j st K ⟨hj,h⟩ hK
 by_cases c:j < ts.length
 ·have e2:(ts.take (j+1)).map fnT=(ts.take j).map fnT++[fnT ts[j]]:=by
   rw [List.take_succ_eq_append_getElem c,List.map_append]; rfl
  have ht:((ts.take j).map fnT).take j=(ts.take j).map fnT:=List.take_of_length_le (by simp; omega)
  generalize hv:(ts.take j).map fnT=v at *
  simp (disch:=omega) [go_sem,a6t,h,c,ht]
  refine hK (j+1) _ ⟨by omega,?_⟩ (by omega)
  rw [e2]
  simp (disch:=omega) [go_sem,h,ht,fnT,eT]
 ·have:j=ts.length:=by omega
  subst this
  rw [List.take_length] at h
  generalize hv:ts.map fnT=v at *
  simp (disch:=omega) [go_sem,a6t,h]
  exact hex _ (by simp (disch:=omega) [go_sem,h])
theorem d28 (ts:List Tn) (hl:ts.length < 2 ^ 36):ACalls pg G c2e [slT ts] (.own 1 ts.length (ts.map fnT)):=by
 refine b59 rfl ?_
 simp (disch:=omega) [go_sem,b4q]
 refine c9f (ts:=ts) hl (by simp (disch:=omega) [go_sem]) (fun s h=> ?_)
 have ht:(ts.map fnT).take ts.length=ts.map fnT:=List.take_of_length_le (by simp)
 generalize hv:ts.map fnT=v at *
 simp (disch:=omega) [go_sem,h,ht]
@[go_sem] theorem e3h {rd:List Nat} {n:Nat} {ks:List AV}:a2l rd (.ip ks n)=true:=by simp only [a2l]
def c5a (x:Int):Prop:= -2147483648<=x/\x<=2147483647
theorem at1 (op:Int) (args:List Int) (i:Nat) (d d0:Ds) (t0:Tn) (ho:op=8\/op=9\/op=11) (ha:args.length=b0d op) (hi:i < t0.data.length) (hx:∀ x∈t0.data,c5a x) (har:∀ a∈args,-2147483648<=a/\a<=2147483647) :
  ACalls pg G b45 [li op,slI args,li i,.agg (eD d),.sl 1 (eD d0),.sl 1 [fnT t0]] (li (c07 op d0.wide t0.data[i] 0 args)):=by
 have hxi:=hx _ (List.getElem_mem hi)
 have hv:=d0u (G:=G) op d0.wide t0.data[i] 0 args (by rcases ho with rfl | rfl | rfl<;>rfl) ha hxi (by omega) har
 have hr:=d27 (G:=G) t0 i hi
 refine b4o rfl ?_
 rcases ho with rfl | rfl | rfl
 all_goals
  simp (disch:=omega) [go_sem,c0p,fnT]
  refine a0b ?_
  simp (disch:=omega) [go_sem]
  refine d8x (fs:=[]) (cs:=[.ip (eT t0) 0]) (L:=[]) [136,137] hr rfl (by simp (disch:=omega) [go_sem]) ?_
  simp (disch:=omega) [go_sem]
  refine a06 hv rfl rfl (by simp) [141] (by simp) (by simp (disch:=omega) [go_sem]) ?_
  simp (disch:=omega) [go_sem]
  refine a0d (by decide) fun s2 hs2 hep=> ?_
  simp (disch:=omega) [go_sem,hs2]
theorem at2 (op:Int) (args:List Int) (i:Nat) (d d0 d1:Ds) (t0 t1:Tn) (ho:op=4\/op=5\/op=6\/op=7) (ha:args.length=b0d op) (hi:i < t0.data.length) (hi2:i < t1.data.length) (hx:∀ x∈t0.data,c5a x) (hy:∀ x∈t1.data,c5a x) (har:∀ a∈args,-2147483648<=a/\a<=2147483647) :
  ACalls pg G b45 [li op,slI args,li i,.agg (eD d),.sl 2 (eD d0++eD d1),.sl 2 [fnT t0,fnT t1]] (li (c07 op d0.wide t0.data[i] t1.data[i] args)):=by
 have hxi:=hx _ (List.getElem_mem hi)
 have hyi:=hy _ (List.getElem_mem hi2)
 have hv:=d0u (G:=G) op d0.wide t0.data[i] t1.data[i] args (by rcases ho with rfl | rfl | rfl | rfl<;>rfl) ha hxi hyi har
 have hr:=d27 (G:=G) t0 i hi
 have hr2:=d27 (G:=G) t1 i hi2
 refine b4o rfl ?_
 rcases ho with rfl | rfl | rfl | rfl
 all_goals
  simp (disch:=omega) [go_sem,c0p,fnT]
  refine c7p hr2 rfl rfl rfl rfl ?_
  simp (disch:=omega) [go_sem]
  refine a0b ?_
  simp (disch:=omega) [go_sem]
  refine d8x (fs:=[]) (cs:=[.ip (eT t0) 0]) (L:=[]) [136,137] hr rfl (by simp (disch:=omega) [go_sem]) ?_
  simp (disch:=omega) [go_sem]
  refine a06 hv rfl rfl (by simp) [141] (by simp) (by simp (disch:=omega) [go_sem]) ?_
  simp (disch:=omega) [go_sem]
  refine a0d (by decide) fun s2 hs2 hep=> ?_
  simp (disch:=omega) [go_sem,hs2]
structure Tn.sh (t:Tn):Prop where
 shape:t.shape.length < 2 ^ 36
 data:t.data.length < 2 ^ 36
theorem b8j (hS:SentO G bk) {op:Int} {args:List Int} {ts:List Tn} (hl:ts.length < 2 ^ 36) (hts:∀ t∈ts,t.sh) (hok:ts.all tOk=true)
  (h:st.s 0=li op/\st.s 1=slI args/\st.s 6= .var [.own 1 0 [],lb false]/\st.s 9= .own 2 0 []/\st.s 15=slT ts/\st.s 16=li ts.length/\st.s 17=li 0)
  (hex:∀ s:St,s.s 0=li op/\s.s 1=slI args/\s.s 6= .var [.own 1 0 [],lb false]/\s.s 9= .own 2 ts.length (fm eD (ts.map tnD))->Q (.exit 0) s):AW pg G 43 (.loop a5r) Q st:=by
 refine a1c Nat (fun j st=>j<=ts.length/\st.s 0=li op/\st.s 1=slI args/\st.s 6= .var [.own 1 0 [],lb false]/\st.s 9= .own 2 j (fm eD ((ts.take j).map tnD))/\st.s 15=slT ts/\st.s 16=li ts.length/\st.s 17=li j) (fun j=>ts.length - j) 0 ⟨by omega,by simpa [a9k] using h⟩ ?_
 clear h
 rintro j st K ⟨hj,h⟩ hK
 by_cases c:j < ts.length
 ·have hsh:=hts _ (List.getElem_mem c)
  have h1:=hsh.shape
  have h2:=hsh.data
  have hv:a44 ts[j].shape ts[j].wide ts[j].data= .nil:=a9l.1 (List.all_eq_true.1 hok _ (List.getElem_mem c))
  have spec:=b3j (G:=G) hS.three ts[j].shape ts[j].wide ts[j].data (by omega) (by omega)
  rw [hv] at spec
  have e2:(ts.take (j+1)).map tnD=(ts.take j).map tnD++[tnD ts[j]]:=by
   rw [List.take_succ_eq_append_getElem c,List.map_append]; rfl
  have ht:(fm eD ((ts.take j).map tnD)).take (j*2)=fm eD ((ts.take j).map tnD):=a6o (fun _=>rfl) (by simp; omega)
  generalize hvv:fm eD ((ts.take j).map tnD)=v at *
  simp (disch:=omega) [go_sem,a5r,h,c]
  refine a0g spec (a0q _) rfl ?_
  simp (disch:=omega) [go_sem,h,c,a0u,ht]
  refine hK (j+1) _ ⟨by omega,?_⟩ (by omega)
  rw [e2,b4f,b4g,hvv]
  simp (disch:=omega) [go_sem,h,ht,tnD]
 ·have:j=ts.length:=by omega
  subst this
  rw [List.take_length] at h
  simp (disch:=omega) [go_sem,a5r,h]
  exact hex _ (by simp (disch:=omega) [go_sem,h])
theorem c9h (hS:SentO G bk) (op:Int) (args:List Int) (ts:List Tn) (hl:ts.length < 2 ^ 36) (hts:∀ t∈ts,t.sh) (ha:args.length < 2 ^ 36) (hok:ts.all tOk=true) (hr:(opR op args (ts.map tnD)).2.isNil=true) :
  ACalls pg G b86 [li op,slI args,slT ts] (.tup [.agg (eD (opR op args (ts.map tnD)).1),slD (ts.map tnD),.lit .nilIface]):=by
 have spec:=e2v hS op args (ts.map tnD) (by
  intro d hd
  obtain ⟨t,ht,rfl⟩:=List.mem_map.1 hd
  have:=(hts t ht).shape
  simp only [tnD]; omega) (by simp; omega) (by omega)
 generalize hrr:opR op args (ts.map tnD)=r at *
 obtain ⟨d,e⟩:=r
 simp only at hr
 obtain rfl:e= .nil:=a9l.1 hr
 have hml:(ts.map tnD).length=ts.length:=by simp
 have ht:(fm eD (ts.map tnD)).take (ts.length*2)=fm eD (ts.map tnD):=a6o (fun _=>rfl) (by simp)
 simp only [slD,hml] at spec
 by_cases hni:a0w (b1t bk (d,.nil))=true
 ·refine ACalls.shown (res:= .tup [.agg (eD d),.own 2 ts.length (fm eD (ts.map tnD)),.lit .nilIface]) ?_ (by simp (disch:=omega) [go_sem,hml])
  refine a8f rfl ?_
  simp (disch:=omega) [go_sem,a80]
  refine b8j hS (op:=op) (args:=args) (ts:=ts) hl hts hok (by simp (disch:=omega) [go_sem]) (fun s h=> ?_)
  simp (disch:=omega) [go_sem,h,ht]
  refine a0g spec (a2x _) hni ?_
  simp (disch:=omega) [go_sem,h,ht,a0u,b1t]
 ·refine a8f rfl ?_
  simp (disch:=omega) [go_sem,a80]
  refine b8j hS (op:=op) (args:=args) (ts:=ts) hl hts hok (by simp (disch:=omega) [go_sem]) (fun s h=> ?_)
  simp (disch:=omega) [go_sem,h,ht]
  refine d1f spec (a2x _) (by simpa using hni) ?_
  simp (disch:=omega) [go_sem,h,ht,a0u,b1t]
theorem d2b {ts:List Tn}:a1m (ts.map fnT)=ts.map fnT:=by
 rw [b5t,List.map_map]
 rfl
theorem c7h {op:Int} {args:List Int} {d:Ds} {dn0 k N:Nat} {dv fv:List AV} {v:Nat->Int} (hN:N < 2 ^ 36) (hz:a1m fv=fv) (hlv:fv.length=k)
  (hat:∀ i,i < N->ACalls pg G b45 [li op,slI args,li i,.agg [slI d.shape,lb d.wide],.sl dn0 dv,.sl k fv] (li (v i)))
  (h:st.s 0=li op/\st.s 1=slI args/\st.s 6= .var [.own 1 0 [],lb false,.own 1 0 []]/\st.s 7= .lit .nilIface/\st.s 8= .var [slI d.shape,lb d.wide]/\st.s 9= .sl dn0 dv/\st.s 12= .own 1 k fv/\st.s 32=li N/\st.s 11= .var [slI d.shape,lb d.wide,.own 1 0 []]/\st.s 33=li 0)
  (hex:∀ s:St,s.s 6= .var [.own 1 0 [],lb false,.own 1 0 []]/\s.s 7= .lit .nilIface/\s.s 11= .var [slI d.shape,lb d.wide,owI ((List.range N).map v)]->Q (.exit 0) s):AW pg G 50 (.loop a6s) Q st:=by
 refine a1c Nat (fun j st=>j<=N/\st.s 0=li op/\st.s 1=slI args/\st.s 6= .var [.own 1 0 [],lb false,.own 1 0 []]/\st.s 7= .lit .nilIface/\st.s 8= .var [slI d.shape,lb d.wide]/\st.s 9= .sl dn0 dv/\st.s 12= .own 1 k fv/\st.s 32=li N/\st.s 11= .var [slI d.shape,lb d.wide,owI ((List.range j).map v)]/\st.s 33=li j) (fun j=>N - j) 0 ⟨by omega,by simpa [owI] using h⟩ ?_
 clear h
 rintro j st K1 ⟨hj,h⟩ hK
 have ht:fv.take k=fv:=List.take_of_length_le (by omega)
 by_cases c:j < N
 ·have spec:=hat j c
  have e2:(List.range (j+1)).map v=(List.range j).map v++[v j]:=by rw [List.range_succ,List.map_append]; rfl
  have hlo:((List.range j).map v).length=j:=by simp
  generalize (List.range j).map v=o at *
  simp (disch:=omega) [go_sem,a6s,h,c]
  refine b5f [(11,st.ep 11)] (by simp) (by simp (disch:=omega) [go_sem,h]) ?_
  simp (disch:=omega) [go_sem,h,hz,ht]
  refine a06 spec rfl rfl (by simp) [44] (by simp) (by simp (disch:=omega) [go_sem,h]) ?_
  simp (disch:=omega) [go_sem,h]
  refine a0d (by decide) fun s2 hs2 hep=> ?_
  simp (disch:=omega) [go_sem,hs2,hep,h]
  refine hK (j+1) _ ⟨by omega,?_⟩ (by omega)
  rw [e2]
  simp (disch:=omega) [go_sem,hs2,hep,h,hlo]
 ·have:j=N:=by omega
  subst this
  simp (disch:=omega) [go_sem,a6s,h]
  exact hex _ (by simp (disch:=omega) [go_sem,h])
theorem b9h {t:Tn} (h:tOk t=true):(t.data.length:Int)=a2h t.shape/\∀ x∈t.data,c5a x:=by
 have h1:a44 t.shape t.wide t.data= .nil:=a9l.1 h
 unfold a44 at h1
 split at h1
 ·split at h1
  ·rename_i hs hl
   refine ⟨hl,fun x hx=> ?_⟩
   have key:∀ (l:List Int) (k:Nat),c10 (a24 t.wide l k)= .nil->∀ x∈l,b5r x t.wide=true:=by
    intro l
    induction l with
    | nil=>intro k _ x hx; cases hx
    | cons y l ih=>
     intro k h x hx
     rw [a24] at h
     split at h
     ·rename_i hy
      rcases List.mem_cons.1 hx with rfl | hx
      ·exact hy
      ·exact ih _ h x hx
     ·cases h
   have:=key _ _ h1 x hx
   unfold b5r at this
   unfold c5a
   split at this<;>simp only [decide_eq_true_eq] at this<;>omega
  ·cases h1
 ·rename_i hs
  exact absurd (a4y.1 h1) hs
theorem d0y (hS:SentO G bk) (op:Int) (args:List Int) (ts:List Tn) (t:Tn) (hts:∀ t∈ts,t.sh) (hap:b68 op args ts=some t) (ha:args.length=b0d op) (har:∀ a∈args,-2147483648<=a/\a<=2147483647)
  (hn:(ts.length=1/\(op=8\/op=9\/op=11))\/(ts.length=2/\(op=4\/op=5\/op=6\/op=7))) (hel:∀ x∈ts,a2h (opR op args (ts.map tnD)).1.shape<=a2h x.shape):ACalls pg G c2c [li op,slI args,slT ts] (.tup [.agg (eT t),.lit .nilIface]):=by
 unfold b68 at hap
 split at hap
 ·rename_i hc
  obtain ⟨hok,hrn,heo⟩:=hc
  simp only [Option.some.injEq] at hap
  have hal:args.length < 2 ^ 36:=by rw [ha]; unfold b0d; split<;>(try split)<;>omega
  have k1:=c9h (G:=G) hS op args ts (by omega) hts hal hok hrn
  have k2:=d28 (G:=G) ts (by omega)
  have her:=b4a (opR op args (ts.map tnD)).1.shape
  have hsl:=c5z (op:=op) (args:=args) (ins:=ts.map tnD) (by
   intro d hd
   obtain ⟨t,ht,rfl⟩:=List.mem_map.1 hd
   have:=(hts t ht).shape
   simp only [tnD]; omega) (by omega)
  have hat:∀ i:Nat,i < (a2h (opR op args (ts.map tnD)).1.shape).toNat->ACalls pg G b45 [li op,slI args,li i,.agg (eD (opR op args (ts.map tnD)).1),slD (ts.map tnD),.sl ts.length (ts.map fnT)] (li (c07 op (ts[0]!).wide (a77 ts 0 i) (a77 ts 1 i) args)):=by
   intro i hi
   rcases hn with ⟨hn1,hop⟩ | ⟨hn1,hop⟩
   ·match ts,hn1 with
    | [t0],_=>
     obtain ⟨a1,a2⟩:=b9h (List.all_eq_true.1 hok t0 (by simp))
     have a3:=hel t0 (by simp)
     have hi0:i < t0.data.length:=by omega
     have:=at1 (G:=G) op args i (opR op args [tnD t0]).1 (tnD t0) t0 hop ha hi0 a2 har
     have e1:a77 [t0] 0 i=t0.data[i]:=by simp [a77,hi0]
     have e2:a77 [t0] 1 i=0:=by simp [a77]
     rw [e1,e2]
     exact this
   ·match ts,hn1 with
    | [t0,t1],_=>
     obtain ⟨a1,a2⟩:=b9h (List.all_eq_true.1 hok t0 (by simp))
     obtain ⟨b1,b2⟩:=b9h (List.all_eq_true.1 hok t1 (by simp))
     have a3:=hel t0 (by simp)
     have b3:=hel t1 (by simp)
     have hi0:i < t0.data.length:=by omega
     have hi1:i < t1.data.length:=by omega
     have:=at2 (G:=G) op args i (opR op args [tnD t0,tnD t1]).1 (tnD t0) (tnD t1) t0 t1 hop ha hi0 hi1 a2 b2 har
     have e1:a77 [t0,t1] 0 i=t0.data[i]:=by simp [a77,hi0]
     have e2:a77 [t0,t1] 1 i=t1.data[i]:=by simp [a77,hi1]
     rw [e1,e2]
     exact this
  generalize hd:(opR op args (ts.map tnD)).1=d at *
  have k3:=b1v (G:=G) hS.three d.shape (by omega)
  obtain ⟨N,hN⟩:∃ N:Nat,a2h d.shape=N:=⟨(a2h d.shape).toNat,by omega⟩
  rw [hN] at k3 her hap hat
  simp only [Int.toNat_natCast] at hap hat
  have hml:(ts.map tnD).length=ts.length:=by simp
  have hfl:(ts.map fnT).length=ts.length:=by simp
  have hz:=d2b (ts:=ts)
  simp only [slD,hml] at k1 hat
  refine b56 rfl ?_
  simp (disch:=omega) [go_sem,b4n]
  refine a0j k1 (by simp [go_sem,noRef]) (by simp (disch:=omega) [go_sem]) ?_
  simp (disch:=omega) [go_sem]
  generalize hfv:ts.map fnT=fv at *
  refine a8o k2 rfl ?_ ?_
  all_goals
   simp (disch:=omega) [go_sem]
   refine a0g k3 rfl rfl ?_
   simp (disch:=omega) [go_sem]
   refine c7h (d:=d) (N:=N) (v:=fun i=>c07 op (ts[0]!).wide (a77 ts 0 i) (a77 ts 1 i) args) (by omega) hz hfl hat (by simp (disch:=omega) [go_sem,hfl]) (fun s h=> ?_)
   subst hap
   simp (disch:=omega) [go_sem,h,eT]
 ·cases hap
end
end Go.Ideal.Tryd
end
section
namespace Go.Ideal.Tryd
def tTo (T:Nat->Tn) (N i:Nat):List Tn:=(List.range i).map T++List.replicate (N - i) tn0
theorem d3s {T:Nat->Tn} {N i:Nat} (h:i<=N):(tTo T N i).length=N:=by simp [tTo]; omega
theorem a7v {T:Nat->Tn} {N i k:Nat} (h:k < i):(tTo T N i)[k]! =T k:=by
 unfold tTo
 have h2:k < ((List.range i).map T++List.replicate (N - i) tn0).length:=by simp; omega
 rw [b7w h2]
 rw [List.getElem_append_left (by simpa using h)]
 simp
theorem d3t {T:Nat->Tn} {N i:Nat} (h:i < N):(tTo T N i).set i (T i)=tTo T N (i+1):=by
 unfold tTo
 rw [show N - i=(N - (i+1))+1 by omega]
 have:=b28 (os:=(List.range i).map T) (k:=N - (i+1)) (x:=T i) (z:=tn0)
 rw [List.length_map,List.length_range] at this
 rw [this,List.range_succ,List.map_append]
 rfl
def cTn (sh:List Int) (w:Bool) (data:List Int):Nd:=⟨2,[],[],sh,w,data⟩
def a2c (i:Nat):Int:=if i=0 then 0 else (i:Int)+1
def drS (m:Nat) (n:Nat):List Nd:=inN [0,(m:Int)]::cTn [(m:Int)] false (List.replicate m 1)::(List.range n).map (fun (i:Nat)=>opN 4 [a2c i,1] [])
def drG (m n:Nat) (hi:Int):Gr:=⟨drS m n++[opN 9 [a2c n] [-hi,hi]],(n:Int)+2⟩
theorem b0c {m n:Nat}:(drS m n).length=n+2:=by simp [drS]
theorem c7v {m n:Nat}:drS m (n+1)=drS m n++[opN 4 [a2c n,1] []]:=by simp [drS,List.range_succ]
theorem b2a {m n:Nat} {hi:Int}:(drG m n hi).nodes.length=n+3:=by simp [drG,b0c]
theorem d1s {m n:Nat} {hi:Int}:(drG m n hi).nodes[0]! =inN [0,(m:Int)]:=rfl
theorem d1t {m n:Nat} {hi:Int}:(drG m n hi).nodes[1]! =cTn [(m:Int)] false (List.replicate m 1):=rfl
theorem c7t {m n i:Nat} {hi:Int} (h:i < n):(drG m n hi).nodes[i+2]! =opN 4 [a2c i,1] []:=by
 have h2:i+2 < (drG m n hi).nodes.length:=by rw [b2a]; omega
 rw [b7w h2]
 simp only [drG]
 rw [List.getElem_append_left (by rw [b0c]; omega)]
 simp [drS]
theorem c7s {m n:Nat} {hi:Int}:(drG m n hi).nodes[n+2]! =opN 9 [a2c n] [-hi,hi]:=by
 have h2:n+2 < (drG m n hi).nodes.length:=by rw [b2a]; omega
 rw [b7w h2]
 simp only [drG]
 rw [List.getElem_append_right (by rw [b0c]; omega)]
 simp [b0c]
theorem c4m {m n:Nat} {hi:Int} (hm:m < 2 ^ 20):∀ x∈(drG m n hi).nodes,x.sh/\x.ins.length<=2/\x.op≠3:=by
 intro x hx
 simp only [drG,drS,List.mem_append,List.mem_cons,List.mem_map,List.mem_range,List.not_mem_nil,or_false] at hx
 rcases hx with (rfl | rfl | ⟨i,_,rfl⟩) | rfl
 ·exact ⟨⟨by simp [inN],by simp [inN],by simp [inN],by simp [inN]⟩,by simp [inN],by simp [inN]⟩
 ·exact ⟨⟨by simp [cTn],by simp [cTn],by simp [cTn],by simp [cTn]; omega⟩,by simp [cTn],by simp [cTn]⟩
 ·exact ⟨⟨by simp [opN],by simp [opN],by simp [opN],by simp [opN]⟩,by simp [opN],by simp [opN]⟩
 ·exact ⟨⟨by simp [opN],by simp [opN],by simp [opN],by simp [opN]⟩,by simp [opN],by simp [opN]⟩
theorem b5n {n i:Nat} (hi:i < n+3):i=0\/i=1\/(∃ j,i=j+2/\j < n)\/i=n+2:=by
 rcases Nat.lt_or_ge i 2 with h | h
 ·omega
 ·by_cases h2:i=n+2
  ·exact .inr (.inr (.inr h2))
  ·exact .inr (.inr (.inl ⟨i - 2,by omega,by omega⟩))
theorem c40 {w:Bool}:∀ {l:List Int} {k:Nat},(∀ x∈l,b5r x w=true)->a24 w l k=none
 | [],_,_=>rfl
 | x::l,k,h=>by
  rw [a24,if_pos (h x (by simp)),c40 fun y hy=>h y (by simp [hy])]
theorem c4p {e:Nat} (he:1<=e/\e<=256):a2h [(e:Int)]=e:=by
 have:b81 [(e:Int)]=true:=a4y.1 (b38 (by omega))
 simp [a2h,this,a52]
theorem c13 {m:Nat} {l:List Int} (hm:1<=m/\m<=256) (hl:l.length=m) (hx:∀ x∈l,-128<=x/\x<=127):a44 [(m:Int)] false l= .nil:=by
 have hs:b81 [(m:Int)]=true:=a4y.1 (b38 (by omega))
 rw [a44,if_pos hs,if_pos (by rw [c4p hm,hl]),c40 (fun x h=>by simp [b5r]; exact hx x h)]
 rfl
theorem c0o {d:Ds} (h:a07 d.shape= .nil):opR 4 [] [d,d]=(d,.nil):=by
 simp [opR,a2n,a2b,a1n,a5y,b5g,chk,h,a1u,a1p,Er.isNil]
theorem b2t {d:Ds} {hi:Int} (h:a07 d.shape= .nil) (hw:d.wide=false) (hh:0<=hi/\hi < 100):opR 9 [-hi,hi] [d]=(d,.nil):=by
 have h1:a12 (-hi)=true:=by simp [a12]; omega
 have h2:a12 hi=true:=by simp [a12]; omega
 have h3: -hi<=hi:=by omega
 obtain ⟨sh,w⟩:=d
 simp only at hw h
 subst hw
 simp [opR,a2n,a2b,a1n,a5y,b5g,chk,h,a1u,a1p,Er.isNil,b5q,h1,h2,h3]
def d83 (m n:Nat):Sn:=⟨b3l (n+3),(List.range (n+3)).map (fun _=>⟨[(m:Int)],false⟩),⟨[(m:Int)],false⟩,[]⟩
theorem a23 {i:Nat}:0<=a2c i/\a2c i < ((i+2:Nat):Int):=by
 unfold a2c; split<;>omega
theorem d84 {m n:Nat} {hi:Int} (hm:1<=m/\m<=40) (hn:n<=59) (hh:0<=hi/\hi < 100):ofR (drG m n hi)=(d83 m n,.nil):=by
 have hlen:=b2a (m:=m) (n:=n) (hi:=hi)
 have hd:a07 [(m:Int)]= .nil:=b38 (by omega)
 have hin:∀ i,i < n+3->∀ x∈(drG m n hi).nodes[i]!.ins,0<=x/\x < (i:Int):=by
  intro i hi2 x hx
  rcases b5n hi2 with rfl | rfl | ⟨j,rfl,hj⟩ | rfl
  ·rw [d1s] at hx; cases hx
  ·rw [d1t] at hx; cases hx
  ·rw [c7t hj] at hx
   have:=a23 (i:=j)
   simp only [opN,List.mem_cons,List.not_mem_nil,or_false] at hx
   omega
  ·rw [c7s] at hx
   have:=a23 (i:=n)
   simp only [opN,List.mem_cons,List.not_mem_nil,or_false] at hx
   omega
 refine d2x (g:=drG m n hi) (N:=n+3) (D:=fun _=>⟨[(m:Int)],false⟩) (L:=fun i=>if i=0 then lk0 (b3l (n+3)) (n+3) else { lk0 (b3l (n+3)) (n+3) with input:=true,hin:=⟨[(m:Int)],false⟩ }) hlen (by omega) (by simp only [drG]; omega) (fun nd hnd=> ?_) hin rfl (fun i hi2=> ?_) |>.trans ?_
 ·have:=(c4m (n:=n) (hi:=hi) (show m < 2 ^ 20 by omega) nd hnd).2.1
  omega
 ·have hget:∀ {L:Lk} {k:Nat},k < i->lkD { L with descs:=dTo (fun _=>(⟨[(m:Int)],false⟩:Ds)) (n+3) i } [(k:Int)]=[⟨[(m:Int)],false⟩]:=by
   intro L k hk
   simp only [lkD,List.map_cons,List.map_nil,Int.toNat_natCast]
   rw [b9v hk]
  have hgl:∀ {L:Lk} {k:Nat},a2c k < (i:Int)->(({ L with descs:=dTo (fun _=>(⟨[(m:Int)],false⟩:Ds)) (n+3) i }:Lk).descs)[(a2c k).toNat]! =⟨[(m:Int)],false⟩:=by
   intro L k hk
   have:=(a23 (i:=k)).1
   exact b9v (by omega)
  rcases b5n hi2 with rfl | rfl | ⟨j,rfl,hj⟩ | rfl
  ·rw [d1s,c84 (by omega) (by simp [lk0])]
   simp
  ·rw [d1t]
   have hv:=c13 (m:=m) (l:=List.replicate m 1) (by omega) (by simp) (fun x hx=>by obtain ⟨_,rfl⟩:=List.mem_replicate.1 hx; omega)
   simp [a3e,cTn,a2n,hv,Er.isNil]
  ·rw [c7t hj,c1y rfl]
   have h1:=a23 (i:=j)
   have e1:∀ L:Lk,lkD { L with descs:=dTo (fun _=>(⟨[(m:Int)],false⟩:Ds)) (n+3) (j+2) } [a2c j,1]=[⟨[(m:Int)],false⟩,⟨[(m:Int)],false⟩]:=by
    intro L
    simp only [lkD,List.map_cons,List.map_nil]
    rw [hgl (L:=L) h1.2,show ((1:Int)).toNat=1 from rfl,b9v (by omega)]
   rw [e1,c0o hd]
   simp
  ·rw [c7s,c1y rfl]
   have h1:=a23 (i:=n)
   have e1:∀ L:Lk,lkD { L with descs:=dTo (fun _=>(⟨[(m:Int)],false⟩:Ds)) (n+3) (n+2) } [a2c n]=[⟨[(m:Int)],false⟩]:=by
    intro L
    simp only [lkD,List.map_cons,List.map_nil]
    rw [hgl (L:=L) h1.2]
   rw [e1,b2t hd rfl hh]
   simp
 ·rw [if_neg (by omega)]
  rfl
def a38 (l:List Int) (j:Nat):List Int:=l.map fun x=>min (x+j) 127
def drT (l:List Int) (n:Nat) (hi:Int) (i:Nat):Tn:=
 if i=0 then ⟨[(l.length:Int)],false,l⟩
 else if i=1 then ⟨[(l.length:Int)],false,List.replicate l.length 1⟩
 else if i=n+2 then ⟨[(l.length:Int)],false,(a38 l n).map fun x=>max (-hi) (min x hi)⟩
 else ⟨[(l.length:Int)],false,a38 l (i - 1)⟩
theorem d1r {l:List Int} (h:∀ x∈l,-128<=x/\x<=127):a38 l 0=l:=by
 have:∀ x∈l,min (x+((0:Nat):Int)) 127=x:=fun x hx=>by have:=h x hx; omega
 unfold a38
 rw [List.map_congr_left this,List.map_id']
theorem b1u {l:List Int} {n j:Nat} {hi:Int} (h:∀ x∈l,-128<=x/\x<=127) (hj:j<=n):drT l n hi (a2c j).toNat=⟨[(l.length:Int)],false,a38 l j⟩:=by
 unfold a2c
 by_cases c:j=0
 ·subst c
  rw [if_pos rfl,d1r h]
  rfl
 ·rw [if_neg c,drT,if_neg (by omega),if_neg (by omega),if_neg (by omega),show ((j:Int)+1).toNat - 1=j by omega]
theorem c4l {l:List Int} (h:∀ x∈l,-128<=x/\x<=127) (j:Nat):∀ x∈a38 l j,-128<=x/\x<=127:=by
 intro x hx
 simp only [a38,List.mem_map] at hx
 obtain ⟨y,hy,rfl⟩:=hx
 have:=h y hy
 omega
theorem a9o {l:List Int} {f:Int->Int} {F:Nat->Int} {m:Nat} (hm:l.length=m) (h:∀ i,(hi:i < l.length)->F i=f l[i]):(List.range m).map F=l.map f:=by
 apply List.ext_getElem
 ·simp [hm]
 ·intro i h1 h2
  simp only [List.getElem_map,List.getElem_range]
  exact h i (by simpa using h2)
theorem d1v {l:List Int} {n:Nat} {hi:Int} (hl:1<=l.length/\l.length<=40) (hh:0<=hi/\hi < 100) (hx:∀ x∈l,-128<=x/\x<=127):∀ i:Nat,i < n+3->c3s (drG l.length n hi) ⟨[(l.length:Int)],false,l⟩ [] (tTo (drT l n hi) (n+3) i) (i:Int)=some (drT l n hi i):=by
 have hd:a07 [(l.length:Int)]= .nil:=b38 (by omega)
 have hel:a2h [(l.length:Int)]=l.length:=c4p (by omega)
 have hones:=c13 (m:=l.length) (l:=List.replicate l.length 1) (by omega) (by simp) (fun x hx=>by obtain ⟨_,rfl⟩:=List.mem_replicate.1 hx; omega)
 have hdat:∀ j,a44 [(l.length:Int)] false (a38 l j)= .nil:=fun j=>c13 (by omega) (by simp [a38]) (c4l hx j)
 intro i hi2
 unfold c3s
 rw [Int.toNat_natCast]
 rcases b5n hi2 with rfl | rfl | ⟨j,rfl,hj⟩ | rfl
 ·rw [d1s]; rfl
 ·rw [d1t]
  simp [cTn,drT]
 ·rw [c7t hj]
  have h1:=a23 (i:=j)
  have e1:(tTo (drT l n hi) (n+3) (j+2))[(a2c j).toNat]! =⟨[(l.length:Int)],false,a38 l j⟩:=by
   rw [a7v (by omega),b1u hx (by omega)]
  have e2:(tTo (drT l n hi) (n+3) (j+2))[((1:Int)).toNat]! =⟨[(l.length:Int)],false,List.replicate l.length 1⟩:=by
   rw [show ((1:Int)).toNat=1 from rfl,a7v (by omega)]
   simp [drT]
  simp only [opN,List.map_cons,List.map_nil,e1,e2]
  rw [if_neg (by omega),if_neg (by omega),if_neg (by omega)]
  unfold b68
  simp only [List.map_cons,List.map_nil,tnD,c0o (d:=⟨[(l.length:Int)],false⟩) hd,hel]
  rw [if_pos ⟨by simp [tOk,hdat,hones,Er.isNil],rfl,rfl⟩]
  congr 1
  have hT:drT l n hi (j+2)=⟨[(l.length:Int)],false,a38 l (j+1)⟩:=by
   rw [drT,if_neg (by omega),if_neg (by omega),if_neg (by omega)]
   rfl
  rw [hT]
  congr 1
  rw [Int.toNat_natCast]
  refine a9o rfl fun i hi3=> ?_
  have hxi:=hx _ (List.getElem_mem hi3)
  have g1:(a38 l j)[i]! =min (l[i]+j) 127:=by
   rw [b7w (by simpa [a38] using hi3)]
   simp [a38]
  have g2:(List.replicate l.length (1:Int))[i]! =1:=by
   rw [b7w (by simpa using hi3)]
   simp
  simp only [c07,a77,c0c,if_true]
  simp [g1,g2]
  omega
 ·rw [c7s]
  have h1:=a23 (i:=n)
  have e1:(tTo (drT l n hi) (n+3) (n+2))[(a2c n).toNat]! =⟨[(l.length:Int)],false,a38 l n⟩:=by
   rw [a7v (by omega),b1u hx (by omega)]
  simp only [opN,List.map_cons,List.map_nil,e1]
  rw [if_neg (by omega),if_neg (by omega),if_neg (by omega)]
  unfold b68
  simp only [List.map_cons,List.map_nil,tnD,b2t (d:=⟨[(l.length:Int)],false⟩) hd rfl hh,hel]
  rw [if_pos ⟨by simp [tOk,hdat,Er.isNil],rfl,rfl⟩]
  congr 1
  have hT:drT l n hi (n+2)=⟨[(l.length:Int)],false,(a38 l n).map fun x=>max (-hi) (min x hi)⟩:=by
   rw [drT,if_neg (by omega),if_neg (by omega),if_pos rfl]
  rw [hT]
  congr 1
  rw [Int.toNat_natCast]
  refine a9o (by simp [a38]) fun i hi3=> ?_
  simp only [c07,a77]
  simp [b7w hi3]
end Go.Ideal.Tryd
end
section
namespace Go.Ideal.Tryd
attribute [local go_sem] eD
section
variable {G:GG} {bk:Nat->Nat×Nat} {Q:Exit->St->Prop} {st:St}
theorem d0g (hS:SentO G bk) (t:Tn) (d:Ds) (ht:t.sh) (hd:d.shape.length < 2 ^ 40):ACalls pg G c2b [.agg (eT t),.agg (eD d)] (a0u bk (b5x t d)):=by
 have h1:=ht.shape
 have h2:=ht.data
 have h0:=hS.val 0 (by decide)
 have k1:=b3j (G:=G) hS.three t.shape t.wide t.data (by omega) (by omega)
 have k2:=a4v (G:=G) (tnD t) d (by simp only [tnD]; omega) (by omega)
 have k2':ACalls pg G b0v [.agg [slI t.shape,lb t.wide],.agg [slI d.shape,lb d.wide]] (lb (decide (tnD t=d))):=k2
 refine b5l rfl ?_
 simp (disch:=omega) [go_sem,b37,eT]
 refine a0j k1 (a0q _) (by simp (disch:=omega) [go_sem]) ?_
 unfold b5x tOk
 generalize a44 t.shape t.wide t.data=e at *
 cases he:e.isNil with
 | false=>simp (disch:=omega) [go_sem,he]
 | true=>
  obtain rfl:e= .nil:=a9l.1 he
  simp (disch:=omega) [go_sem,he,a0u]
  refine a0g k2' rfl rfl ?_
  by_cases hc:tnD t=d
  ·simp (disch:=omega) [go_sem,hc,a0u]
  ·simp (disch:=omega) [go_sem,hc,h0,a0u]
@[go_sem] theorem f0i {xs:List Ds} {i:Nat} (h:i < xs.length):((fm eD xs).drop (i*2)).take 2=[slI xs[i].shape,lb xs[i].wide]:=a8c (f:=eD) (k:=2) (fun _=>rfl) h
theorem d7m (hS:SentO G bk) {g:Gr} {s:Sn} {inn:Tn} {ws:List Tn} (hl:ws.length < 2 ^ 30) (hlw:ws.length=s.ws.length) (hws:∀ t∈ws,t.sh) (hds:∀ d∈s.ws,d.shape.length < 2 ^ 40)
  (h:st.s 2=slT ws/\st.s 3= .var [slN g.nodes,li g.out]/\st.s 4= .var (eT inn)/\st.s 6= .own 3 0 []/\st.s 7= .lit .nilIface/\st.s 8= .var (eSn s)/\st.s 43=slT ws/\st.s 44=li ws.length/\st.s 45=li 0)
  (hret:∀ e,b6o ws s.ws=e->e.isNil=false->∀ s':St,s'.s 6= .own 3 0 []/\s'.s 7=a0u bk e->Q .ret s')
  (hex:b6o ws s.ws= .nil->∀ s':St,s'.s 2=slT ws/\s'.s 3= .var [slN g.nodes,li g.out]/\s'.s 4= .var (eT inn)/\s'.s 6= .own 3 0 []/\s'.s 7= .lit .nilIface/\s'.s 8= .var (eSn s)->Q (.exit 0) s'):AW pg G 139 (.loop a7y) Q st:=by
 refine a1c Nat (fun j st=>j<=ws.length/\b6o (ws.drop j) (s.ws.drop j)=b6o ws s.ws/\st.s 2=slT ws/\st.s 3= .var [slN g.nodes,li g.out]/\st.s 4= .var (eT inn)/\st.s 6= .own 3 0 []/\st.s 7= .lit .nilIface/\st.s 8= .var (eSn s)/\st.s 43=slT ws/\st.s 44=li ws.length/\st.s 45=li j) (fun j=>ws.length - j) 0 ⟨by omega,by simp,by simpa using h⟩ ?_
 clear h
 rintro j st K1 ⟨hj,hm,h⟩ hK
 by_cases c:j < ws.length
 ·have c2:j < s.ws.length:=by omega
  have spec:=d0g (G:=G) hS ws[j] s.ws[j] (hws _ (List.getElem_mem c)) (hds _ (List.getElem_mem c2))
  rw [List.drop_eq_getElem_cons c,List.drop_eq_getElem_cons c2,b6o] at hm
  simp only [eT] at spec
  generalize b5x ws[j] s.ws[j]=e at *
  simp only [eSn,eT] at h
  simp (disch:=omega) [go_sem,a7y,h,c]
  refine b5f [(12,st.ep 12+1),(8,st.ep 8)] (by simp) (by simp (disch:=omega) [go_sem,h]) ?_
  simp (disch:=omega) [go_sem,h,c,c2]
  refine a9f spec (a0q _) (by simp (disch:=omega) [go_sem,h]) (by simp) [56] (by simp) (by simp (disch:=omega) [go_sem,h]) ?_
  simp (disch:=omega) [go_sem,h]
  refine a0d (by decide) fun s2 hs2 hep=> ?_
  cases he:e.isNil with
  | false=>
   rw [if_neg (by simp [he])] at hm
   simp (disch:=omega) [go_sem,hs2,hep,h,he]
   exact hret e hm.symm he _ (by simp (disch:=omega) [go_sem,hs2,hep,h])
  | true=>
   rw [if_pos he] at hm
   simp (disch:=omega) [go_sem,hs2,hep,h,he]
   exact hK (j+1) _ ⟨by omega,hm,by simp (disch:=omega) [go_sem,hs2,hep,h,eSn,eT]⟩ (by omega)
 ·have:j=ws.length:=by omega
  subst this
  rw [List.drop_length,b6o] at hm
  ·simp (disch:=omega) [go_sem,a7y,h]
   exact hex hm.symm _ (by simp (disch:=omega) [go_sem,h])
  ·intro _ _ _ _ h1; cases h1
end
@[go_sem] theorem f0n {xs:List Tn} {i:Nat} (h:i < xs.length):((fm eT xs).drop (i*3)).take 3=[slI xs[i].shape,lb xs[i].wide,slI xs[i].data]:=a8c (f:=eT) (k:=3) (fun _=>rfl) h
theorem b7n {xs:List Tn} {i:Nat} {t:Tn} (h:i < xs.length):a0i (fm eT xs) (i*3) [slI t.shape,lb t.wide,slI t.data]=fm eT (xs.set i t):=b2e (f:=eT) (c:=3) (fun _=>rfl) t h
def b2i (out:List Tn) (ks:List Int):List Tn:=ks.map fun k=>out[k.toNat]!
@[simp] theorem c8u {out:List Tn} {ks:List Int}:(b2i out ks).length=ks.length:=by simp [b2i]
section
variable {G:GG} {bk:Nat->Nat×Nat} {Q:Exit->St->Prop} {st:St}
theorem d7n {g:Gr} {s:Sn} {inn:Tn} {ws out:List Tn} {n:Nd} {j0 i0:Nat} (hi:∀ k∈n.ins,0<=k/\k < (out.length:Int)) (hl:n.ins.length < 2 ^ 36)
  (h:st.s 2=slT ws/\st.s 3= .var [slN g.nodes,li g.out]/\st.s 4= .var (eT inn)/\st.s 6= .own 3 0 []/\st.s 7= .lit .nilIface/\st.s 8= .var (eSn s)/\st.s 66=slI s.ord/\st.s 67=li s.ord.length/\st.s 68=li j0/\st.s 14= .own 3 out.length (fm eT out)/\st.s 16=li i0/\st.s 17= .var (a5l n)/\st.s 18= .own 3 0 []/\st.s 80=slI n.ins/\st.s 81=li n.ins.length/\st.s 82=li 0)
  (hex:∀ s':St,(s'.s 2=slT ws/\s'.s 3= .var [slN g.nodes,li g.out]/\s'.s 4= .var (eT inn)/\s'.s 6= .own 3 0 []/\s'.s 7= .lit .nilIface/\s'.s 8= .var (eSn s)/\s'.s 66=slI s.ord/\s'.s 67=li s.ord.length/\s'.s 68=li j0/\s'.s 14= .own 3 out.length (fm eT out)/\s'.s 16=li i0/\s'.s 17= .var (a5l n)/\s'.s 18= .own 3 n.ins.length (fm eT (b2i out n.ins)))->Q (.exit 5) s'):AW pg G 139 (.loop a7z) Q st:=by
 refine a1c Nat (fun j st=>j<=n.ins.length/\st.s 2=slT ws/\st.s 3= .var [slN g.nodes,li g.out]/\st.s 4= .var (eT inn)/\st.s 6= .own 3 0 []/\st.s 7= .lit .nilIface/\st.s 8= .var (eSn s)/\st.s 66=slI s.ord/\st.s 67=li s.ord.length/\st.s 68=li j0/\st.s 14= .own 3 out.length (fm eT out)/\st.s 16=li i0/\st.s 17= .var (a5l n)/\st.s 18= .own 3 j (fm eT (b2i out (n.ins.take j)))/\st.s 80=slI n.ins/\st.s 81=li n.ins.length/\st.s 82=li j) (fun j=>n.ins.length - j) 0 ⟨by omega,by simpa [a9k,b2i] using h⟩ ?_
 clear h
 rintro j st K1 ⟨hj,h⟩ hK
 by_cases c:j < n.ins.length
 ·have hk:=hi _ (List.getElem_mem c)
  obtain ⟨kk,hkk⟩:∃ kk:Nat,n.ins[j]=kk:=⟨n.ins[j].toNat,by omega⟩
  rw [hkk] at hk
  have hk2:kk < out.length:=by omega
  have e:out[((kk:Int)).toNat]! =out[kk]:=by simp [hk2]
  have e2:b2i out (n.ins.take (j+1))=b2i out (n.ins.take j)++[out[kk]]:=by
   rw [List.take_succ_eq_append_getElem c,b2i,List.map_append,List.map_cons,List.map_nil,hkk,e]; rfl
  have ht:(fm eT (b2i out (n.ins.take j))).take (j*3)=fm eT (b2i out (n.ins.take j)):=a6o (fun _=>rfl) (by simp; omega)
  generalize hv:fm eT (b2i out (n.ins.take j))=v at *
  simp (disch:=omega) [go_sem,a7z,h,c,hkk,hk2,ht]
  refine hK (j+1) _ ⟨by omega,?_⟩ (by omega)
  rw [e2,b4f,b4g,hv]
  simp (disch:=omega) [go_sem,h,ht,eT]
 ·have:j=n.ins.length:=by omega
  subst this
  rw [List.take_length] at h
  simp (disch:=omega) [go_sem,a7z,h]
  exact hex _ (by simp (disch:=omega) [go_sem,h])
structure Fwd (g:Gr) (ws:List Tn) (T:Nat->Tn) (N:Nat):Prop where
 len:g.nodes.length=N
 sh:∀ n∈g.nodes,n.sh
 tsh:∀ i,i < N->(T i).sh
 wt:∀ j,j < N->g.nodes[j]!.op=3->∃ (k:Nat) (r:List Int),g.nodes[j]!.args=(k:Int)::r/\k < ws.length
 op:∀ j,j < N->g.nodes[j]!.op≠1->g.nodes[j]!.op≠2->g.nodes[j]!.op≠3->g.nodes[j]!.args.length=b0d g.nodes[j]!.op/\(∀ a∈g.nodes[j]!.args,-2147483648<=a/\a<=2147483647)/\(∀ k∈g.nodes[j]!.ins,0<=k/\k < (j:Int))/\
  ((g.nodes[j]!.ins.length=1/\(g.nodes[j]!.op=8\/g.nodes[j]!.op=9\/g.nodes[j]!.op=11))\/(g.nodes[j]!.ins.length=2/\(g.nodes[j]!.op=4\/g.nodes[j]!.op=5\/g.nodes[j]!.op=6\/g.nodes[j]!.op=7)))/\
  ∀ x∈b2i (tTo T N j) g.nodes[j]!.ins,a2h (opR g.nodes[j]!.op g.nodes[j]!.args ((b2i (tTo T N j) g.nodes[j]!.ins).map tnD)).1.shape<=a2h x.shape
theorem d7o (hS:SentO G bk) {g:Gr} {s:Sn} {inn:Tn} {ws:List Tn} {T:Nat->Tn} {N:Nat} (hN:N<=64) (hF:Fwd g ws T N) (hord:s.ord=b3l N) (hinn:inn.sh) (hws:∀ t∈ws,t.sh)
  (hT:∀ i:Nat,i < N->c3s g inn ws (tTo T N i) (i:Int)=some (T i))
  (h:st.s 2=slT ws/\st.s 3= .var [slN g.nodes,li g.out]/\st.s 4= .var (eT inn)/\st.s 6= .own 3 0 []/\st.s 7= .lit .nilIface/\st.s 8= .var (eSn s)/\st.s 14= .own 3 N (fm eT (List.replicate N tn0))/\st.s 66=slI s.ord/\st.s 67=li s.ord.length/\st.s 68=li 0)
  (hex:∀ s':St,s'.s 6= .own 3 0 []/\s'.s 7= .lit .nilIface/\s'.s 14= .own 3 N (fm eT ((List.range N).map T))->Q (.exit 2) s'):AW pg G 139 (.loop a4b) Q st:=by
 have hol:s.ord.length=N:=by rw [hord,b6n]
 refine a1c Nat (fun j st=>j<=N/\st.s 2=slT ws/\st.s 3= .var [slN g.nodes,li g.out]/\st.s 4= .var (eT inn)/\st.s 6= .own 3 0 []/\st.s 7= .lit .nilIface/\st.s 8= .var (eSn s)/\st.s 14= .own 3 N (fm eT (tTo T N j))/\st.s 66=slI s.ord/\st.s 67=li s.ord.length/\st.s 68=li j) (fun j=>N - j) 0 ⟨by omega,by simpa [tTo] using h⟩ ?_
 clear h
 rintro j st K1 ⟨hj,h⟩ hK
 by_cases c:j < N
 ·have c0:j < s.ord.length:=by omega
  have hi:s.ord[j]=(j:Int):=by simp only [hord,c17]
  have c1:j < g.nodes.length:=by rw [hF.len]; exact c
  have hol2:(tTo T N j).length=N:=d3s hj
  have c2:j < (tTo T N j).length:=by omega
  have hset:=d3t (T:=T) c
  have hstep:=hT j c
  have hop:=hF.op j c
  have hwt:=hF.wt j c
  have hn:=hF.sh _ (List.getElem_mem c1)
  have hn3:=hn.shape
  have hn4:=hn.data
  have htsh:=hF.tsh j c
  unfold c3s at hstep
  rw [Int.toNat_natCast] at hstep
  rw [b7w c1] at hstep hop hwt
  simp only [eT,eSn] at h
  by_cases o1:g.nodes[j].op=1
  ·simp only [o1,if_true,Option.some.injEq] at hstep
   have k1:=(b5h (G:=G) inn.shape inn.wide inn.data (by have:=hinn.shape; omega) (by have:=hinn.data; omega)).shown (res':= .agg [slI inn.shape,lb inn.wide,slI inn.data]) (by simp (disch:=omega) [go_sem])
   generalize hout:tTo T N j=out at *
   simp (disch:=omega) [go_sem,a4b,h,c0,hi,c1,o1]
   refine a0j k1 (by simp (disch:=omega) [go_sem]) (by simp (disch:=omega) [go_sem,h]) ?_
   rw [<-hol2]
   simp (disch:=omega) [go_sem,h,c0,hi,c1,c2]
   refine hK (j+1) _ ⟨by omega,?_⟩ (by omega)
   rw [<-hset,<-hstep]
   simp (disch:=omega) [go_sem,h,eT,eSn,hol2,b7n,c2]
  by_cases o3:g.nodes[j].op=3
  ·obtain ⟨k,r,hargs,hkw⟩:=hwt o3
   have h0:(g.nodes[j].args[0]!).toNat=k:=by rw [hargs]; rfl
   rw [if_neg o1,if_pos o3,h0,b7w hkw] at hstep
   simp only [Option.some.injEq] at hstep
   have hwsh:=hws _ (List.getElem_mem hkw)
   have k1:=(b5h (G:=G) ws[k].shape ws[k].wide ws[k].data (by have:=hwsh.shape; omega) (by have:=hwsh.data; omega)).shown (res':= .agg [slI ws[k].shape,lb ws[k].wide,slI ws[k].data]) (by simp (disch:=omega) [go_sem])
   generalize hout:tTo T N j=out at *
   rw [hargs] at h0
   simp (disch:=omega) [go_sem,a4b,h,c0,hi,c1,o3,hargs,hkw]
   refine a0j k1 (by simp (disch:=omega) [go_sem]) (by simp (disch:=omega) [go_sem,h]) ?_
   rw [<-hol2]
   simp (disch:=omega) [go_sem,h,c0,hi,c1,c2]
   refine hK (j+1) _ ⟨by omega,?_⟩ (by omega)
   rw [<-hset,<-hstep]
   simp (disch:=omega) [go_sem,h,eT,eSn,hol2,b7n,c2]
  by_cases o2:g.nodes[j].op=2
  ·rw [if_neg o1,if_neg o3,if_pos o2] at hstep
   simp only [Option.some.injEq] at hstep
   have k1:=(b5h (G:=G) g.nodes[j].shape g.nodes[j].wide g.nodes[j].data (by omega) (by omega)).shown (res':= .agg [slI g.nodes[j].shape,lb g.nodes[j].wide,slI g.nodes[j].data]) (by simp (disch:=omega) [go_sem])
   generalize hout:tTo T N j=out at *
   simp (disch:=omega) [go_sem,a4b,h,c0,hi,c1,o2]
   refine a0j k1 (by simp (disch:=omega) [go_sem]) (by simp (disch:=omega) [go_sem,h]) ?_
   rw [<-hol2]
   simp (disch:=omega) [go_sem,h,c0,hi,c1,c2]
   refine hK (j+1) _ ⟨by omega,?_⟩ (by omega)
   rw [<-hset,<-hstep]
   simp (disch:=omega) [go_sem,h,eT,eSn,hol2,b7n,c2]
   exact b7n (t:=⟨g.nodes[j].shape,g.nodes[j].wide,g.nodes[j].data⟩) c2
  ·rw [if_neg o1,if_neg o3,if_neg o2] at hstep
   obtain ⟨p1,p2,p3,p4,p5⟩:=hop o1 o2 o3
   have hsl:∀ x∈b2i (tTo T N j) g.nodes[j].ins,x.sh:=by
    intro x hx
    simp only [b2i,List.mem_map] at hx
    obtain ⟨k,hk,rfl⟩:=hx
    have:=p3 k hk
    rw [a7v (by omega)]
    exact hF.tsh _ (by omega)
   have hil:(b2i (tTo T N j) g.nodes[j].ins).length=g.nodes[j].ins.length:=c8u
   have spec:=d0y (G:=G) hS g.nodes[j].op g.nodes[j].args (b2i (tTo T N j) g.nodes[j].ins) (T j) hsl hstep p1 p2 (by rw [hil]; exact p4) p5
   have hin2:∀ k∈g.nodes[j].ins,0<=k/\k < ((tTo T N j).length:Int):=fun k hk=>by have:=p3 k hk; omega
   generalize hout:tTo T N j=out at *
   simp only [slT,hil,eT] at spec
   simp (disch:=omega) [go_sem,a4b,h,c0,hi,c1,o1,o2,o3]
   refine d7n (g:=g) (s:=s) (inn:=inn) (ws:=ws) (out:=out) (n:=g.nodes[j]) (j0:=j) (i0:=j) hin2 (hn.ins) (by simp (disch:=omega) [go_sem,h,a5l,eT,eSn,hol2,hol,a9k]) (fun s1 h1=> ?_)
   have ht:(fm eT (b2i out g.nodes[j].ins)).take (g.nodes[j].ins.length*3)=fm eT (b2i out g.nodes[j].ins):=a6o (fun _=>rfl) (by simp)
   simp only [eT,eSn,a5l,hol2] at h1
   simp (disch:=omega) [go_sem,h1,ht]
   refine a8o spec (by simp [go_sem,noRef]) ?_ ?_
   all_goals
    rw [<-hol2] at h1
    simp (disch:=omega) [go_sem,h1,c2]
    refine hK (j+1) _ ⟨by omega,?_⟩ (by omega)
    rw [<-hset]
    simp (disch:=omega) [go_sem,h1,eT,eSn,hol2,b7n,c2]
 ·have:j=N:=by omega
  subst this
  simp (disch:=omega) [go_sem,a4b,h,hol]
  exact hex _ (by simp (disch:=omega) [go_sem,h,tTo])
end
theorem c56 {n:Nat}:a58 n [.sl 0 [],.lit (.bool false),.sl 0 []]=fm eT (List.replicate n tn0):=by
 induction n with
 | zero=>rfl
 | succ n ih=>rw [List.replicate_succ,a4c,<-ih]; simp [a58,List.replicate_succ,eT,tn0]
section
variable {G:GG} {bk:Nat->Nat×Nat} {Q:Exit->St->Prop} {st:St}
structure Seen (g:Gr) (s:Sn):Prop where
 of:ofR g=(s,.nil)
 nd:∀ n∈g.nodes,n.sh
 tot:tot (g.nodes.map (·.ins)) < 2 ^ 40
 hin:s.hin.shape.length < 2 ^ 36
 ws:s.ws.length<=8/\∀ d∈s.ws,d.shape.length < 2 ^ 36
theorem g0d (hS:SentO G bk) (hA:Around G bk) {g:Gr} {s:Sn} {inn:Tn} {ws:List Tn} {T:Nat->Tn} {N:Nat} (hs:Seen g s) (hN:N<=64) (hF:Fwd g ws T N) (hord:s.ord=b3l N) (hinn:inn.sh) (hwl:ws.length < 2 ^ 30) (hws:∀ t∈ws,t.sh)
  (hT:∀ i:Nat,i < N->c3s g inn ws (tTo T N i) (i:Int)=some (T i)) (he:c1c s inn ws= .nil) :
  ACalls pg G c3y [d5k g,.agg (eT inn),slT ws] (.tup [.sl N (fm eT ((List.range N).map T)),.lit .nilIface]):=by
 have hlen:=hF.len
 have k1:=g0s hS hA g hs.nd (by omega) hs.tot
 rw [hs.of] at k1
 have k2:=d0g (G:=G) hS inn s.hin hinn (by have:=hs.hin; omega)
 have hh:=hs.hin
 simp only [eT] at k2
 refine ACalls.shown (res:= .tup [.own 3 N (fm eT ((List.range N).map T)),.lit .nilIface]) ?_ (by simp (disch:=omega) [go_sem])
 refine b7m rfl ?_
 simp (disch:=omega) [go_sem,b7l,eT]
 refine a0j k1 (by simp [go_sem,eSn,noRef]) (by simp (disch:=omega) [go_sem]) ?_
 simp (disch:=omega) [go_sem,a0u,eSn]
 refine a0j k2 (a0q _) (by simp (disch:=omega) [go_sem]) ?_
 unfold c1c at he
 generalize b5x inn s.hin=e1 at *
 cases h1:e1.isNil with
 | false=>
  rw [if_neg (by simp [h1])] at he
  subst he
  cases h1
 | true=>
  rw [if_pos h1] at he
  by_cases hc:ws.length=s.ws.length
  ·rw [if_pos hc] at he
   simp (disch:=omega) [go_sem,h1,hc]
   refine d7m hS (g:=g) (s:=s) (inn:=inn) (ws:=ws) hwl hc hws (fun d hd=>by have:=hs.ws.2 d hd; omega) (by simp (disch:=omega) [go_sem,hc,eT,eSn]) (fun e2 hm hn2 s1 h=> ?_) (fun hm s1 h=> ?_)
   ·rw [hm] at he
    subst he
    cases hn2
   ·simp only [eT,eSn] at h
    simp (disch:=omega) [go_sem,h,hlen,c56]
    refine d7o hS (g:=g) (s:=s) (inn:=inn) (ws:=ws) (T:=T) (N:=N) hN hF hord hinn hws hT (by simp (disch:=omega) [go_sem,h,hlen,c56,eT,eSn]) (fun s2 h2=> ?_)
    have ht:(fm eT ((List.range N).map T)).take (N*3)=fm eT ((List.range N).map T):=a6o (fun _=>rfl) (by simp)
    simp (disch:=omega) [go_sem,h2,ht]
  ·rw [if_neg hc] at he
   cases he
theorem c94 (hS:SentO G bk) (hA:Around G bk) {g:Gr} {s:Sn} {inn:Tn} {ws:List Tn} {T:Nat->Tn} {N o:Nat} (hs:Seen g s) (hN:N<=64) (hF:Fwd g ws T N) (hord:s.ord=b3l N) (hinn:inn.sh) (hwl:ws.length < 2 ^ 30) (hws:∀ t∈ws,t.sh)
  (hT:∀ i:Nat,i < N->c3s g inn ws (tTo T N i) (i:Int)=some (T i)) (he:c1c s inn ws= .nil) (ho:g.out=(o:Int)) (ho2:o < N) :
  ACalls pg G b43 [d5k g,.agg (eT inn),slT ws] (.tup [.agg (eT (T o)),.lit .nilIface]):=by
 have k1:=g0d hS hA hs hN hF hord hinn hwl hws hT he
 have hl:((List.range N).map T).length=N:=by simp
 have hg:((List.range N).map T)[o]! =T o:=by rw [b7w (by omega)]; simp
 have ho3:o < ((List.range N).map T).length:=by omega
 generalize hout:(List.range N).map T=out at *
 rw [b7w ho3] at hg
 simp only [d5k,ho,eT] at k1
 refine b9w rfl ?_
 simp (disch:=omega) [go_sem,c1k,eT,ho]
 refine a0j k1 (by simp [go_sem,noRef]) (by simp (disch:=omega) [go_sem]) ?_
 simp (disch:=omega) [go_sem,ho,ho2,ho3,hg]
end
@[go_sem] theorem f6c {n:Int}:unO .neg (.lit (.int .i64 n))=some (.lit (.int .i64 (IntKind.i64.wrap (0 - n)))):=(rfl)
def e2t:Gr:=⟨[inN [0,1]],0⟩
def c87:Sn:=⟨[0],[⟨[1],false⟩],⟨[1],false⟩,[]⟩
theorem d2y:ofR e2t=(c87,.nil):=by kernel_rfl
theorem d0r {z:List AV}:a58 2 z=z++z:=by simp [a58,List.replicate_succ]
theorem c57 {e:Nat}:a58 e [li 0]=(List.replicate e (0:Int)).map li:=by
 induction e with
 | zero=>rfl
 | succ e ih=>rw [List.replicate_succ,List.map_cons,<-ih]; simp [a58,List.replicate_succ]
def a7m (m j:Nat):List Int:=List.replicate j 1++List.replicate (m - j) 0
theorem c3h {m j:Nat} (h:j<=m):(a7m m j).length=m:=by simp [a7m]; omega
theorem c3i {m j:Nat} (h:j < m):(a7m m j).set j 1=a7m m (j+1):=by
 unfold a7m
 rw [show m - j=(m - (j+1))+1 by omega]
 have:=b28 (os:=List.replicate j (1:Int)) (k:=m - (j+1)) (x:=1) (z:=(0:Int))
 rw [List.length_replicate] at this
 rw [this,List.replicate_succ']
def c2p (m:Nat) (o:List Int):List AV:=[li 1,.own 1 0 [],owI [0,(m:Int)],.own 1 0 [],lb false,.own 1 0 [],li 2,.own 1 0 [],.own 1 0 [],owI [(m:Int)],lb false,owI o]
theorem d1u {m:Nat}:c2p m (a7m m m)=fm b1w (drS m 0):=by
 simp only [a7m,Nat.sub_self,List.replicate_zero,List.append_nil]
 rfl
section
variable {G:GG} {bk:Nat->Nat×Nat} {Q:Exit->St->Prop} {st:St}
theorem d9x (hS:SentO G bk) (hA:Around G bk):ACalls pg G a86 [] (lb true):=by
 have hn:∀ n∈e2t.nodes,n=inN [0,1]:=fun n hn=>by simpa [e2t] using hn
 have hsh:(inN [0,1]).sh:=⟨by simp [inN],by simp [inN],by simp [inN],by simp [inN]⟩
 have spec:=c94 hS hA (g:=e2t) (s:=c87) (inn:=⟨[1],false,[4]⟩) (ws:=[]) (T:=fun _=>⟨[1],false,[4]⟩) (N:=1) (o:=0) ⟨d2y,fun n h=>by rw [hn n h]; exact hsh,by simp [e2t,inN,tot],by simp [c87],by simp [c87]⟩ (by omega)
  ⟨rfl,fun n h=>by rw [hn n h]; exact hsh,fun i hi=>⟨by simp,by simp⟩,fun j hj ho=>by
   obtain rfl:j=0:=by omega
   exact absurd ho (by decide),fun j hj ho=>by
   obtain rfl:j=0:=by omega
   exact absurd rfl ho⟩ rfl ⟨by simp,by simp⟩ (by simp) (fun t ht=>by cases ht) (fun i hi=>by
   obtain rfl:i=0:=by omega
   rfl) (by kernel_rfl) rfl (by omega)
 have hst:=c9m (G:=G) [1] false [4] (by simp) (by simp)
 have spec2:ACalls pg G b43 [.agg [.sl 1 [li 1,.sl 0 [],.sl 2 [li 0,li 1],.sl 0 [],lb false,.sl 0 []],li 0],.agg [.sl 1 [li 1],lb false,.sl 1 [li 4]],.sl 0 []] (.tup [.agg [.sl 1 [li 1],lb false,.sl 1 [li 4]],.lit .nilIface]):=spec
 refine a7k rfl ?_
 simp (disch:=omega) [go_sem,a5p]
 refine a8o spec2 (by simp [go_sem,noRef]) ?_ ?_
 all_goals
  simp (disch:=omega) [go_sem]
  refine a0g hst rfl rfl ?_
  simp (disch:=omega) [go_sem]
def a69 (l:List Int):List Int:=l.map fun x=>c5y x 256 - 128
theorem f0c {n hi:Int} {l:List Int} (hl:l.length<=40) (h:st.s 0=li n/\st.s 1=slI l/\st.s 2=li hi/\st.s 7=lb true/\st.s 8= .var [owI [(l.length:Int)],lb false,.own 1 0 []]/\st.s 9=li 0)
  (hex:∀ s:St,(s.s 0=li n/\s.s 1=slI l/\s.s 2=li hi/\s.s 7=lb true/\s.s 8= .var [owI [(l.length:Int)],lb false,owI (a69 l)])->Q (.exit 0) s):AW pg G 163 (.loop a15) Q st:=by
 refine a1c Nat (fun j st=>j<=l.length/\st.s 0=li n/\st.s 1=slI l/\st.s 2=li hi/\st.s 7=lb true/\st.s 8= .var [owI [(l.length:Int)],lb false,owI (a69 (l.take j))]/\st.s 9=li j) (fun j=>l.length - j) 0 ⟨by omega,by simpa [a69,owI] using h⟩ ?_
 clear h
 rintro j st K1 ⟨hj,h⟩ hK
 by_cases c:j < l.length
 ·have spec:=b52 (G:=G) l[j] 256 (by decide) (by decide)
  have rr:=b1z (n:=l[j]) (m:=256) (by decide)
  have e2:a69 (l.take (j+1))=a69 (l.take j)++[c5y l[j] 256 - 128]:=by
   rw [List.take_succ_eq_append_getElem c,a69,List.map_append]; rfl
  have hlv:(a69 (l.take j)).length=j:=by simp [a69]; omega
  generalize a69 (l.take j)=v at *
  generalize c5y l[j] 256=z at *
  simp (disch:=omega) [go_sem,a15,h,c]
  refine b5f [(8,st.ep 8)] (by simp) (by simp (disch:=omega) [go_sem,h]) ?_
  simp (disch:=omega) [go_sem,h,c]
  refine a06 spec rfl rfl (by simp) [54] (by simp) (by simp (disch:=omega) [go_sem,h]) ?_
  simp (disch:=omega) [go_sem,h]
  refine a0d (by decide) fun s2 hs2 hep=> ?_
  simp (disch:=omega) [go_sem,hs2,hep,h]
  refine hK (j+1) _ ⟨by omega,?_⟩ (by omega)
  rw [e2]
  simp (disch:=omega) [go_sem,hs2,hep,h,hlv]
 ·have:j=l.length:=by omega
  subst this
  rw [List.take_length] at h
  simp (disch:=omega) [go_sem,a15,h]
  exact hex _ (by simp (disch:=omega) [go_sem,h])
theorem f0d {n hi:Int} {l:List Int} (hl:l.length<=40) (h:st.s 0=li n/\st.s 1=slI l/\st.s 2=li hi/\st.s 7=lb true/\st.s 8= .var [owI [(l.length:Int)],lb false,owI (a69 l)]/\st.s 10= .var [.own 6 2 (c2p l.length (a7m l.length 0)),li 0]/\st.s 11=li 0)
  (hex:∀ s:St,(s.s 0=li n/\s.s 1=slI l/\s.s 2=li hi/\s.s 7=lb true/\s.s 8= .var [owI [(l.length:Int)],lb false,owI (a69 l)]/\s.s 10= .var [.own 6 2 (fm b1w (drS l.length 0)),li 0])->Q (.exit 2) s):AW pg G 163 (.loop a16) Q st:=by
 refine a1c Nat (fun j st=>j<=l.length/\st.s 0=li n/\st.s 1=slI l/\st.s 2=li hi/\st.s 7=lb true/\st.s 8= .var [owI [(l.length:Int)],lb false,owI (a69 l)]/\st.s 10= .var [.own 6 2 (c2p l.length (a7m l.length j)),li 0]/\st.s 11=li j) (fun j=>l.length - j) 0 ⟨by omega,by simpa using h⟩ ?_
 clear h
 rintro j st K1 ⟨hj,h⟩ hK
 by_cases c:j < l.length
 ·have hlo:=c3h hj
  have e2:=c3i c
  generalize hoj:a7m l.length j=o at *
  have c2:j < o.length:=by omega
  simp only [c2p] at h
  simp (disch:=omega) [go_sem,a16,h,c,c2,hlo]
  refine hK (j+1) _ ⟨by omega,?_⟩ (by omega)
  rw [<-e2]
  simp (disch:=omega) [go_sem,h,c,c2,hlo,c2p]
 ·have:j=l.length:=by omega
  subst this
  rw [d1u] at h
  simp (disch:=omega) [go_sem,a16,h]
  exact hex _ (by simp (disch:=omega) [go_sem,h])
theorem f0e {n:Nat} {hi:Int} {l:List Int} (hl:l.length<=40) (hn:n<=59) (h:st.s 0=li n/\st.s 1=slI l/\st.s 2=li hi/\st.s 7=lb true/\st.s 8= .var [owI [(l.length:Int)],lb false,owI (a69 l)]/\st.s 10= .var [.own 6 2 (fm b1w (drS l.length 0)),li 0]/\st.s 12=li 0/\st.s 13=li 0)
  (hex:∀ s:St,(s.s 0=li n/\s.s 1=slI l/\s.s 2=li hi/\s.s 7=lb true/\s.s 8= .var [owI [(l.length:Int)],lb false,owI (a69 l)]/\s.s 10= .var [.own 6 (n+2) (fm b1w (drS l.length n)),li 0]/\s.s 12=li (a2c n))->Q (.exit 4) s):AW pg G 163 (.loop a17) Q st:=by
 refine a1c Nat (fun j st=>j<=n/\st.s 0=li n/\st.s 1=slI l/\st.s 2=li hi/\st.s 7=lb true/\st.s 8= .var [owI [(l.length:Int)],lb false,owI (a69 l)]/\st.s 10= .var [.own 6 (j+2) (fm b1w (drS l.length j)),li 0]/\st.s 12=li (a2c j)/\st.s 13=li j) (fun j=>n - j) 0 ⟨by omega,by simpa [a2c] using h⟩ ?_
 clear h
 rintro j st K1 ⟨hj,h⟩ hK
 have hlen:(drS l.length j).length=j+2:=b0c
 have ht:(fm b1w (drS l.length j)).take ((j+2)*6)=fm b1w (drS l.length j):=by rw [<-hlen]; exact b7r
 have hvl:(fm b1w (drS l.length j)).length=(j+2)*6:=by rw [c74,hlen]
 by_cases c:j < n
 ·have e2:fm b1w (drS l.length (j+1))=fm b1w (drS l.length j)++[li 4,owI [a2c j,1],.own 1 0 [],.own 1 0 [],lb false,.own 1 0 []]:=by
   rw [c7v,b4f,b4g]; rfl
  have e3:a2c (j+1)=(j:Int)+2:=by simp [a2c]; omega
  generalize fm b1w (drS l.length j)=v at *
  generalize a2c j=dl at *
  simp (disch:=omega) [go_sem,a17,h,c,ht]
  refine hK (j+1) _ ⟨by omega,?_⟩ (by omega)
  rw [e2,e3]
  simp (disch:=omega) [go_sem,h,ht]
 ·have:j=n:=by omega
  subst this
  simp (disch:=omega) [go_sem,a17,h]
  exact hex _ (by simp (disch:=omega) [go_sem,h])
theorem f0f {n hi:Int} {l sh o:List Int} {w:Bool} (hl:l.length<=40) (hn:0<=n/\n < 60) (hh:0<=hi/\hi < 100) (ho:o.length=l.length) (hx:∀ x∈a69 l,-128<=x/\x<=127) (hv:∀ i (h1:i < o.length) (h2:i < (a69 l).length),o[i]=min (max (min ((a69 l)[i]+n) 127) (-hi)) hi) (h:st.s 0=li n/\st.s 1=slI l/\st.s 2=li hi/\st.s 8= .var [slI [(l.length:Int)],lb false,slI (a69 l)]/\st.s 14= .var [slI sh,lb w,slI o]/\st.s 16=li 0)
  (hex:∀ s:St,Q (.exit 6) s):AW pg G 163 (.loop a18) Q st:=by
 refine a1c Nat (fun j st=>j<=l.length/\st.s 0=li n/\st.s 1=slI l/\st.s 2=li hi/\st.s 8= .var [slI [(l.length:Int)],lb false,slI (a69 l)]/\st.s 14= .var [slI sh,lb w,slI o]/\st.s 16=li j) (fun j=>l.length - j) 0 ⟨by omega,by simpa using h⟩ ?_
 clear h
 rintro j st K1 ⟨hj,h⟩ hK
 have hdl:(a69 l).length=l.length:=by simp [a69]
 by_cases c:j < l.length
 ·have c1:j < o.length:=by omega
  have c2:j < (a69 l).length:=by omega
  have hv:=hv j c1 c2
  have hxj:=hx _ (List.getElem_mem c2)
  generalize hdd:(a69 l)[j]=x at *
  generalize hoo:o[j]=y at *
  simp (disch:=omega) [go_sem,a18,h,c]
  refine a0b ?_
  simp (disch:=omega) [go_sem,h,c,c1,c2,hdd,hoo]
  refine a0d (by decide) fun s2 hs2 hep=> ?_
  have hy:y=(if hi < (if (if 127 < x+n then 127 else x+n) < -hi then -hi else (if 127 < x+n then 127 else x+n)) then hi else (if (if 127 < x+n then 127 else x+n) < -hi then -hi else (if 127 < x+n then 127 else x+n))):=by
   rw [hv]
   (repeat' split)<;>omega
  simp (disch:=omega) [go_sem,hs2,hep,h]
  exact hK (j+1) _ ⟨by omega,by simp (disch:=omega) [go_sem,hs2,hep,h]⟩ (by omega)
 ·have:j=l.length:=by omega
  subst this
  simp (disch:=omega) [go_sem,a18,h]
  exact hex _
theorem c7u {l:List Int}:∀ x∈a69 l,-128<=x/\x<=127:=by
 intro x hx
 simp only [a69,List.mem_map] at hx
 obtain ⟨y,_,rfl⟩:=hx
 have:=b1z (n:=y) (m:=256) (by decide)
 omega
theorem f0g (hS:SentO G bk) (hA:Around G bk) {l:List Int} {n:Nat} {hi:Int} (hl:1<=l.length/\l.length<=40) (hn:n<=59) (hh:0<=hi/\hi < 100) (hx:∀ x∈l,-128<=x/\x<=127) :
  ACalls pg G b43 [d5k (drG l.length n hi),.agg [slI [(l.length:Int)],lb false,slI l],.sl 0 []] (.tup [.agg [slI [(l.length:Int)],lb false,slI ((a38 l n).map fun x=>max (-hi) (min x hi))],.lit .nilIface]):=by
 have hd:a07 [(l.length:Int)]= .nil:=b38 (by omega)
 have hel:a2h [(l.length:Int)]=l.length:=c4p (by omega)
 have hmem:=c4m (m:=l.length) (n:=n) (hi:=hi) (by omega)
 have hlen:=b2a (m:=l.length) (n:=n) (hi:=hi)
 have htot:tot ((drG l.length n hi).nodes.map (·.ins))<=2*((drG l.length n hi).nodes.map (·.ins)).length:=e4n (fun r hr=>by
  obtain ⟨x,hx,rfl⟩:=List.mem_map.1 hr
  exact (hmem x hx).2.1)
 rw [List.length_map,hlen] at htot
 have hshape:∀ i,(drT l n hi i).shape=[(l.length:Int)]:=by
  intro i
  unfold drT
  split
  ·rfl
  ·split
   ·rfl
   ·split<;>rfl
 have hok:a44 [(l.length:Int)] false l= .nil:=c13 (by omega) rfl hx
 have spec:=c94 hS hA (g:=drG l.length n hi) (s:=d83 l.length n) (inn:=⟨[(l.length:Int)],false,l⟩) (ws:=[]) (T:=drT l n hi) (N:=n+3) (o:=n+2) ⟨d84 hl hn hh,fun x hx=>(hmem x hx).1,by omega,by simp [d83],by simp [d83]⟩ (by omega)
  ⟨hlen,fun x hx=>(hmem x hx).1,fun i hi2=>⟨by rw [hshape]; simp,by
   unfold drT
   split
   ·simp; omega
   ·split
    ·simp; omega
    ·split<;>simp [a38]<;>omega⟩,fun j hj ho=>by
   have hj2:j < (drG l.length n hi).nodes.length:=by omega
   rw [b7w hj2] at ho
   exact absurd ho (hmem _ (List.getElem_mem hj2)).2.2,fun j hj o1 o2 o3=>by
   have hins:∀ ks:List Int,(∀ k∈ks,0<=k/\k < (j:Int))->∀ x∈b2i (tTo (drT l n hi) (n+3) j) ks,x.shape=[(l.length:Int)]:=by
    intro ks hks x hx
    simp only [b2i,List.mem_map] at hx
    obtain ⟨k,hk,rfl⟩:=hx
    have:=hks k hk
    rw [a7v (by omega)]
    exact hshape _
   rcases b5n hj with rfl | rfl | ⟨i,rfl,hi2⟩ | rfl
   ·exact absurd rfl o1
   ·exact absurd rfl o2
   ·have h1:=a23 (i:=i)
    have hks:∀ k∈[a2c i,1],0<=k/\k < ((i+2:Nat):Int):=by
     intro k hk
     simp only [List.mem_cons,List.not_mem_nil,or_false] at hk
     rcases hk with rfl | rfl<;>omega
    have e1:(tTo (drT l n hi) (n+3) (i+2))[(a2c i).toNat]! =⟨[(l.length:Int)],false,a38 l i⟩:=by
     rw [a7v (by omega),b1u hx (by omega)]
    have e2:(tTo (drT l n hi) (n+3) (i+2))[((1:Int)).toNat]! =⟨[(l.length:Int)],false,List.replicate l.length 1⟩:=by
     rw [show ((1:Int)).toNat=1 from rfl,a7v (by omega)]
     simp [drT]
    rw [c7t hi2]
    refine ⟨rfl,fun a ha=>(by cases ha),hks,.inr ⟨rfl,.inl rfl⟩,fun x hx2=> ?_⟩
    rw [hins _ hks x hx2]
    simp only [opN,b2i,List.map_cons,List.map_nil,e1,e2,tnD]
    rw [c0o (d:=⟨[(l.length:Int)],false⟩) hd]
    exact Int.le_refl _
   ·have h1:=a23 (i:=n)
    have hks:∀ k∈[a2c n],0<=k/\k < ((n+2:Nat):Int):=by
     intro k hk
     simp only [List.mem_cons,List.not_mem_nil,or_false] at hk
     subst hk; omega
    have e1:(tTo (drT l n hi) (n+3) (n+2))[(a2c n).toNat]! =⟨[(l.length:Int)],false,a38 l n⟩:=by
     rw [a7v (by omega),b1u hx (by omega)]
    rw [c7s]
    refine ⟨rfl,fun a ha=> ?_,hks,.inl ⟨rfl,.inr (.inl rfl)⟩,fun x hx2=> ?_⟩
    ·simp only [opN,List.mem_cons,List.not_mem_nil,or_false] at ha
     rcases ha with rfl | rfl<;>omega
    ·rw [hins _ hks x hx2]
     simp only [opN,b2i,List.map_cons,List.map_nil,e1,tnD]
     rw [b2t (d:=⟨[(l.length:Int)],false⟩) hd rfl hh]
     exact Int.le_refl _⟩ rfl ⟨by simp,by simp; omega⟩ (by simp) (fun t ht=>by cases ht) (d1v hl hh hx) (by
   unfold c1c b5x
   rw [show tOk ⟨[(l.length:Int)],false,l⟩=true by simp [tOk,hok,Er.isNil]]
   simp [tnD,d83,Er.isNil,b6o]) (by simp only [drG]; omega) (by omega)
 have hT:drT l n hi (n+2)=⟨[(l.length:Int)],false,(a38 l n).map fun x=>max (-hi) (min x hi)⟩:=by
  rw [drT,if_neg (by omega),if_neg (by omega),if_pos rfl]
 rw [hT] at spec
 exact spec
theorem c1j (hS:SentO G bk) (hA:Around G bk) (a0:Int) (l:List Int) (a2:Int):ACalls pg G a75 [li a0,slI l,li a2] (lb true):=by
 have r1:=b1z (n:=a0) (m:=60) (by decide)
 have r2:=b1z (n:=a2) (m:=100) (by decide)
 have k1:=b52 (G:=G) a0 60 (by decide) (by decide)
 have k2:=b52 (G:=G) a2 100 (by decide) (by decide)
 obtain ⟨n,hn⟩:∃ n:Nat,c5y a0 60=n:=⟨(c5y a0 60).toNat,by omega⟩
 rw [hn] at k1 r1
 generalize c5y a2 100=hi at *
 refine a6q rfl ?_
 simp (disch:=omega) [go_sem,a4x]
 refine a0g (d9x hS hA) rfl rfl ?_
 simp (disch:=omega) [go_sem]
 refine a0g k1 rfl rfl ?_
 simp (disch:=omega) [go_sem]
 refine a0g k2 rfl rfl ?_
 by_cases c1:40 < l.length
 ·have c1':(40:Int) < l.length:=by omega
  simp (disch:=omega) [go_sem,c1']
 have c1':¬ (40:Int) < l.length:=by omega
 by_cases c2:l.length=0
 ·have c2':(l.length:Int)=0:=by omega
  simp (disch:=omega) [go_sem,c1',c2']
 have c2':¬ l=[]:=by rintro rfl; exact c2 rfl
 simp (disch:=omega) [go_sem,c1',c2']
 refine f0c (n:=n) (hi:=hi) (l:=l) (by omega) (by simp (disch:=omega) [go_sem]) (fun s h=> ?_)
 have hdl:(a69 l).length=l.length:=by simp [a69]
 have hdr:=c7u (l:=l)
 simp (disch:=omega) [go_sem,h,d0r,c57,a0i]
 refine f0d (n:=n) (hi:=hi) (l:=l) (by omega) (by simp (disch:=omega) [go_sem,h,d0r,c57,a0i,c2p,a7m]) (fun s1 h1=> ?_)
 simp (disch:=omega) [go_sem,h1]
 refine f0e (n:=n) (hi:=hi) (l:=l) (by omega) (by omega) (by simp (disch:=omega) [go_sem,h1]) (fun s2 h2=> ?_)
 have spec:=f0g hS hA (l:=a69 l) (n:=n) (hi:=hi) (by omega) (by omega) r2 hdr
 have hlen:=b2a (m:=l.length) (n:=n) (hi:=hi)
 have e2:fm b1w (drG l.length n hi).nodes=fm b1w (drS l.length n)++[li 9,.own 1 1 [li (a2c n)],.own 1 2 [li (-hi),li hi],.own 1 0 [],lb false,.own 1 0 []]:=by
  simp only [drG]
  rw [b4f,b4g]; rfl
 have hz:a1m (fm b1w (drG l.length n hi).nodes)=fm a5l (drG l.length n hi).nodes:=c73
 have hl2:(drS l.length n).length=n+2:=b0c
 have ht:(fm b1w (drS l.length n)).take ((n+2)*6)=fm b1w (drS l.length n):=by rw [<-hl2]; exact b7r
 rw [hdl] at spec
 simp only [d5k,slN,hlen] at spec
 have ho:(drG l.length n hi).out=(n:Int)+2:=rfl
 rw [ho] at spec
 rw [e2] at hz
 have hv:∀ i (h1:i < ((a38 (a69 l) n).map fun x=>max (-hi) (min x hi)).length) (h2:i < (a69 l).length),((a38 (a69 l) n).map fun x=>max (-hi) (min x hi))[i]=min (max (min ((a69 l)[i]+n) 127) (-hi)) hi:=by
  intro i h1 h2
  have:=hdr _ (List.getElem_mem h2)
  simp [a38]
  omega
 have hol:((a38 (a69 l) n).map fun x=>max (-hi) (min x hi)).length=l.length:=by simp [a38,a69]
 generalize ((a38 (a69 l) n).map fun x=>max (-hi) (min x hi))=o at *
 generalize fm b1w (drS l.length n)=v at *
 generalize fm a5l (drG l.length n hi).nodes=w at *
 simp (disch:=omega) [go_sem,h2,ht,hz]
 refine a8o spec (by simp [go_sem,noRef]) ?_ ?_
 all_goals
  simp (disch:=omega) [go_sem,h2,hol]
  refine f0f (n:=n) (hi:=hi) (l:=l) (sh:=[(l.length:Int)]) (w:=false) (o:=o) (by omega) (by omega) r2 hol hdr hv (by simp (disch:=omega) [go_sem,h2,hol]) (fun s3=> ?_)
  simp (disch:=omega) [go_sem]
end
end Go.Ideal.Tryd
end
