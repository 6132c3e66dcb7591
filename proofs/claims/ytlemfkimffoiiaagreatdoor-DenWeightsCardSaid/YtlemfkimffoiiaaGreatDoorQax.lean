/- Part Qax of the proof: walks on a machine that is proved sound. -/
import Derived.Test.YtlemfkimffoiiaaGreatDoorQaw
import Derived.Test.YtlemfkimffoiiaaGreatDoorQah
import Derived.Test.YtlemfkimffoiiaaGreatDoorQav
import Derived.Test.YtlemfkimffoiiaaGreatDoorQaj
import Derived.Test.YtlemfkimffoiiaaGreatDoorQak
set_option linter.unusedVariables false
set_option linter.unusedSimpArgs false
set_option maxHeartbeats 2000000
set_option maxRecDepth 10000
section
namespace Go.Ideal.Tryz
attribute [local go_sem] eD
theorem c0b {α:Type} {os:List α} {k:Nat} {x z:α}:(os++List.replicate (k+1) z).set os.length x=(os++[x])++List.replicate k z:=by
 rw [List.set_append_right _ _ (Nat.le_refl _),Nat.sub_self,List.replicate_succ,List.set_cons_zero,List.append_assoc]; rfl
section
variable {G:GG} {bk:Nat->Nat×Nat} {Q:Exit->St->Prop} {st:St}
end
theorem b1y {l:List AV} {i:Nat} {v:AV} (h:i < l.length):a0h l i [v]=l.set i v:=by
 rw [List.set_eq_take_append_cons_drop,if_pos h]; simp [a0h]
section
variable {G:GG} {bk:Nat->Nat×Nat} {Q:Exit->St->Prop} {st:St}
end
end Go.Ideal.Tryz
end
section
namespace Go.Ideal.Tryz
def b07 (n:Nat):List Int:=(List.range n).map fun (i:Nat)=>(i:Int)
theorem b3f {n:Nat}:(b07 n).length=n:=by simp [b07]
theorem c3x {n k:Nat} (h:k < (b07 n).length):(b07 n)[k]=k:=by simp [b07]
theorem c0g {n:Nat}:b07 (n+1)=b07 n++[(n:Int)]:=by simp [b07,List.range_succ]
def b0a (n i:Nat):List Bool:=List.replicate i true++List.replicate (n - i) false
theorem b1h {n i k:Nat} (hk:k < n):(b0a n i)[k]! =decide (k < i):=by
 unfold b0a
 by_cases h:k < i
 ·have h2:k < (List.replicate i true++List.replicate (n - i) false).length:=by simp; omega
  rw [b79 h2,List.getElem_append_left (by simpa using h)]
  simp [h]
 ·have h2:k < (List.replicate i true++List.replicate (n - i) false).length:=by simp; omega
  rw [b79 h2,List.getElem_append_right (by simpa using h)]
  simp [h]
theorem c4f {n i:Nat} (h:i < n):(b0a n i).set i true=b0a n (i+1):=by
 unfold b0a
 rw [show n - i=(n - (i+1))+1 by omega,List.set_append_right _ _ (by simp),List.length_replicate,Nat.sub_self,List.replicate_succ,List.set_cons_zero,List.replicate_succ',List.append_assoc]
 rfl
theorem d1g {n i:Nat} (hi:i < n) {ins:List (List Int)} (hn:ins.length=n) (hx:∀ x∈ins[i]!,0<=x/\x < (i:Int)):∀ d k f,k+d=i->(a46 (b0a n i) (ins.drop k) k f).1=i:=by
 intro d
 induction d with
 | zero=>
  intro k f hk
  obtain rfl:k=i:=by omega
  rw [get!_drop (by omega),a46,b1h hi,if_neg (by simp),if_pos]
  rw [List.all_eq_true]
  intro x hx2
  have:=hx x hx2
  rw [b1h (by omega)]
  simp; omega
 | succ d ih=>
  intro k f hk
  rw [get!_drop (by omega),a46,b1h (by omega),if_pos (by simp; omega)]
  exact ih (k+1) f (by omega)
theorem c75 {ins:List (List Int)} (hx:∀ i,i < ins.length->∀ x∈ins[i]!,0<=x/\x < (i:Int)):∀ f i,i+f=ins.length->a9t ins f (b0a ins.length i) (b07 i)= .ok (b07 ins.length):=by
 intro f
 induction f with
 | zero=>intro i h; obtain rfl:i=ins.length:=by omega
         rfl
 | succ f ih=>
  intro i h
  have e:=d1g (n:=ins.length) (i:=i) (by omega) rfl (hx i (by omega)) i 0 (-1) (by omega)
  rw [List.drop_zero] at e
  rw [a9t,e,if_neg (by omega),Int.toNat_natCast,c4f (by omega),<-c0g]
  exact ih (i+1) (by omega)
theorem c3r {n:Nat}:∀ {rs:List (List Int)} {k:Nat},(∀ r∈rs,∀ x∈r,0<=x/\x < (n:Int))->c5g n rs k=none
 | [],_,_=>rfl
 | r::rs,k,h=>by
  rw [c5g,if_neg,c3r (fun r2 hr2=>h r2 (by simp [hr2]))]
  rw [Bool.not_eq_true,List.any_eq_false]
  intro x hx
  have:=h r (by simp) x hx
  simp [c8w]; omega
theorem c70 {ins:List (List Int)} (hr:∀ r∈ins,r.length < 2 ^ 61) (hx:∀ i,i < ins.length->∀ x∈ins[i]!,0<=x/\x < (i:Int)):a9r ins= .ok (b07 ins.length):=by
 have h1:c2k ins=(b07 ins.length,(0,false,0)):=by
  unfold c2k
  rw [c3r]
  ·have:=c75 hx ins.length 0 (by omega)
   rw [show b0a ins.length 0=List.replicate ins.length false by simp [b0a],show b07 0=[] from rfl] at this
   simp only [this]
  ·intro r hr2 x hx2
   obtain ⟨i,hi,rfl⟩:=List.mem_iff_getElem.1 hr2
   have:=hx i hi x (by rw [b79 hi]; exact hx2)
   omega
 obtain ⟨a,b⟩:=b1x hr
 cases h:a9r ins with
 | error e=>
  obtain ⟨i,g⟩:=e
  have:=(a i g h).1
  rw [h1] at this
  simp at this
 | ok out=>
  have:=b out h
  rw [h1] at this
  simp only [Prod.mk.injEq,and_true] at this
  rw [this]
def dTo (D:Nat->Ds) (N i:Nat):List Ds:=(List.range i).map D++List.replicate (N - i) dn
theorem c6h {D:Nat->Ds} {N i k:Nat} (h:k < i):(dTo D N i)[k]! =D k:=by
 unfold dTo
 have h2:k < ((List.range i).map D++List.replicate (N - i) dn).length:=by simp; omega
 rw [b79 h2]
 rw [List.getElem_append_left (by simpa using h)]
 simp
theorem d3t {D:Nat->Ds} {N i:Nat} (h:i < N):(dTo D N i).set i (D i)=dTo D N (i+1):=by
 unfold dTo
 rw [show N - i=(N - (i+1))+1 by omega]
 have:=c0b (os:=(List.range i).map D) (k:=N - (i+1)) (x:=D i) (z:=dn)
 rw [List.length_map,List.length_range] at this
 rw [this,List.range_succ,List.map_append]
 rfl
theorem c14 {ns:List Nd} {N:Nat} (hN:ns.length=N) {D:Nat->Ds} {L:Nat->Lk} (h:∀ i,i < N->a3b { L i with descs:=dTo D N i } ns[i]! =((D i,.nil),{ L (i+1) with descs:=dTo D N i })) :
  ∀ k i,i+k=N->a5m ns { L i with descs:=dTo D N i } ((b07 N).drop i)=({ L N with descs:=dTo D N N }.sn,.nil):=by
 intro k
 induction k with
 | zero=>
  intro i hi
  obtain rfl:i=N:=by omega
  rw [List.drop_of_length_le (by rw [b3f]; exact Nat.le_refl _),a5m]
 | succ k ih=>
  intro i hi
  have hlt:i < (b07 N).length:=by rw [b3f]; omega
  rw [List.drop_eq_getElem_cons hlt,c3x,a5m,Int.toNat_natCast,h i (by omega)]
  simp only [Er.isNil,if_true]
  rw [d3t (by omega)]
  exact ih (i+1) (by omega)
theorem d41 {g:Gr} {N:Nat} (hN:g.nodes.length=N) (h64:N<=64) (hout:0<=g.out/\g.out < (N:Int)) (hf:∀ n∈g.nodes,n.ins.length < 2 ^ 61) (hins:∀ i,i < N->∀ x∈(g.nodes[i]!).ins,0<=x/\x < (i:Int)) {D:Nat->Ds} {L:Nat->Lk} (h0:L 0=lk0 (b07 N) N)
  (h:∀ i,i < N->a3b { L i with descs:=dTo D N i } g.nodes[i]! =((D i,.nil),{ L (i+1) with descs:=dTo D N i })) :
  ofR g=({ L N with descs:=(List.range N).map D }.sn,.nil):=by
 have hs:a9r (g.nodes.map (·.ins))= .ok (b07 N):=by
  have:=c70 (ins:=g.nodes.map (·.ins)) (fun r hr=>by
   obtain ⟨n,hn,rfl⟩:=List.mem_map.1 hr
   exact hf n hn) (fun i hi x hx=>by
   rw [List.length_map] at hi
   rw [b79 (by simpa using hi),List.getElem_map] at hx
   exact hins i (by omega) x (by rw [b79 hi]; exact hx))
  rw [this]; simp [hN]
 unfold ofR
 rw [if_neg (by omega),if_neg (by omega),hs,hN]
 simp only
 have:=c14 hN h N 0 (by omega)
 rw [List.drop_zero,h0] at this
 have e0:dTo D N 0=List.replicate N dn:=by simp [dTo]
 have e1:dTo D N N=(List.range N).map D:=by simp [dTo]
 rw [e0,e1] at this
 exact this
def inN (args:List Int):Nd:=⟨1,[],args,[],false,[]⟩
def opN (op:Int) (ins args:List Int):Nd:=⟨op,ins,args,[],false,[]⟩
theorem d04 {l:Lk} {op:Int} {ins args:List Int} (h:a3d op=true):a3b l (opN op ins args)=(opR op args (lkD l ins),l):=by
 simp [a3b,opN,h]
def a1o:IC:=(.seq (.seq (.reg [om 53 13,
 om 54 1,
 oo 55 (.bin .lss 3 0 (.t 53) (.t 54) 3)]) (.cond (.t 55) .skip (.exit 0))) (.seq (.block 1 (.seq (.reg [om 58 0,
 om 59 13,
 om 60 0,
 oo 61 (.len 22 false (.t 60)),
 oo 62 (.bin .rem 3 0 (.t 59) (.t 61) 3),
 oo 63 (.iaddr 22 1 (.t 58) (.t 62)),
 oo 64 (.load 3 none (.t 63)),
 om 65 13,
 oo 66 (.bin .add 3 0 (.t 65) (.n 3) 3),
 oo 67 (.bin .mul 3 0 (.t 64) (.t 66) 3),
 oc 68 5 [(false,(.t 67)),(false,(.n 1000))] [3,3],
 oo 14 (.asg (.t 68))]) (.seq (.reg [oo 69 (.faddr 33 0 (.t 8) 0),
 oo 70 (.load 31 none (.t 69)),
 om 71 13,
 oo 72 (.bslice 22 3 1 2 [.lit (.int .i64 0)] [(0,(.t 71)),(1,(.n 1))]),
 oo 73 (.build 30 [.lit (.int .i64 0),.own 1 0 [],.own 1 0 [],.own 1 0 [],.lit (.bool false),.own 1 0 []] [(0,0,1,(.n 3)),(2,2,1,(.t 72))]),
 om 74 12,
 oo 75 (.faddr 33 0 (.t 8) 0),
 oo 76 (.load 31 none (.t 75)),
 oo 77 (.len 31 false (.t 76)),
 oo 78 (.bslice 22 3 1 2 [.lit (.int .i64 0)] [(0,(.t 74)),(1,(.t 77))]),
 oo 79 (.build 30 [.lit (.int .i64 0),.own 1 0 [],.own 1 0 [],.own 1 0 [],.lit (.bool false),.own 1 0 []] [(0,0,1,(.n 6)),(1,1,1,(.t 78))]),
 oo 80 (.bslice 31 30 6 2 [.lit (.int .i64 0),.own 1 0 [],.own 1 0 [],.own 1 0 [],.lit (.bool false),.own 1 0 []] [(0,(.t 73)),(1,(.t 79))]),
 oo 81 (.app 31 30 6 112 (.t 70) (.t 80)),
 oo 82 (.faddr 33 0 (.t 8) 0),
 ov (.store 31 1 (.t 82) (.t 81))]) (.seq (.reg [oo 83 (.faddr 33 0 (.t 8) 0),
 oo 84 (.load 31 none (.t 83)),
 oo 85 (.len 31 false (.t 84)),
 oo 86 (.bin .sub 3 0 (.t 85) (.n 1) 3),
 oo 12 (.asg (.t 86))]) (.seq (.reg [om 87 9,
 oo 88 (.build 26 [.own 1 0 [],.lit (.bool false)] [(1,1,1,(.c (.bool true)))]),
 om 89 14,
 oo 90 (.bslice 22 3 1 1 [.lit (.int .i64 0)] [(0,(.t 89))]),
 oo 91 (.build 28 [.own 1 0 [],.lit (.bool false),.own 1 0 []] [(0,0,2,(.t 88)),(1,2,1,(.t 90))]),
 oo 92 (.bslice 34 28 3 1 [.own 1 0 [],.lit (.bool false),.own 1 0 []] [(0,(.t 91))]),
 oo 93 (.app 34 28 3 56 (.t 87) (.t 92)),
 oo 9 (.asg (.t 93))]) (.reg [om 94 10,
 om 95 14,
 oo 96 (.bin .mul 3 0 (.t 94) (.t 95) 3),
 oo 97 (.conv 3 36 (.int .u64) (.t 96)),
 oo 98 (.conv 36 35 (.int .u32) (.t 97)),
 oo 99 (.conv 35 21 (.int .i32) (.t 98)),
 oo 100 (.conv 21 3 (.int .i64) (.t 99)),
 oo 10 (.asg (.t 100))])))))) (.reg [om 56 13,
 oo 57 (.bin .add 3 0 (.t 56) (.n 1) 3),
 oo 13 (.asg (.t 57))])))
@[go_sem] def lodgelaw19_DenWeights_r33:List AO:=[oo 159 (.load 33 (some 2) (.t 8)),
 om 160 9,
 oo 161 (.iaddr 34 3 (.t 160) (.n 0)),
 oo 162 (.load 28 (some 3) (.t 161)),
 om 163 9,
 oc 164 6 [(false,(.t 159)),(false,(.t 162)),(false,(.t 163))] [33,28,34],
 oo 158 (.mvf (.t 164)),
 oo 165 (.ext (.t 158) 0),
 oo 166 (.ext (.t 158) 1),
 oo 20 (.alloc 28 [.own 1 0 [],.lit (.bool false),.own 1 0 []]),
 ov (.store 28 3 (.t 20) (.t 165)),
 oo 21 (.asg (.t 166))]
@[go_sem] def lodgelaw19_DenWeights_r34:List AO:=[om 167 19,
 oc 168 9 [(false,(.t 167)),(false,(.n 101))] [38,3],
 om 169 168,
 og 170 (.mv (.t 21)) 2 169 true,
 og 171 (.bin .eql 38 2 (.t 170) (.c .nilIface) 38) 2 169 true,
 oo 172 (.pick (.t 169) (.t 171) (.c (.bool false))),
 oo 6 (.asg (.t 172))]
def a30:IC:=(.seq (.reg [oo 6 (.asg (.c (.bool false)))]) (.seq (.reg [oc 22 4 [] [],
 oo 7 (.asg (.t 22))]) (.seq (.seq (.reg [om 23 7,
 oo 24 (.un .not 4 (.t 23))]) (.cond (.t 24) (.seq (.reg [oo 6 (.asg (.c (.bool false)))]) .ret) .skip)) (.seq (.reg [om 25 1,
 oc 26 5 [(false,(.t 25)),(false,(.n 4))] [3,3],
 oo 27 (.bin .add 3 0 (.t 26) (.n 1) 3),
 oo 1 (.asg (.t 27))]) (.seq (.seq (.reg [om 28 0,
 oo 29 (.len 22 false (.t 28)),
 oo 30 (.bin .gtr 3 0 (.t 29) (.n 20) 3),
 om 31 30,
 og 32 (.mv (.t 0)) 3 31 false,
 og 33 (.len 22 false (.t 32)) 3 31 false,
 og 34 (.bin .eql 3 0 (.t 33) (.n 0) 3) 3 31 false,
 oo 35 (.pick (.t 31) (.c (.bool true)) (.t 34)),
 om 36 35,
 og 37 (.mv (.t 7)) 8 36 false,
 og 38 (.un .not 4 (.t 37)) 8 36 false,
 oo 39 (.pick (.t 36) (.c (.bool true)) (.t 38))]) (.cond (.t 39) (.seq (.reg [om 40 7,
 oo 6 (.asg (.t 40))]) .ret) .skip)) (.seq (.reg [oo 41 (.bslice 22 3 1 1 [.lit (.int .i64 0)] [(0,(.n 1))]),
 oo 42 (.build 30 [.lit (.int .i64 0),.own 1 0 [],.own 1 0 [],.own 1 0 [],.lit (.bool false),.own 1 0 []] [(0,0,1,(.n 1)),(2,2,1,(.t 41))]),
 oo 43 (.bslice 31 30 6 1 [.lit (.int .i64 0),.own 1 0 [],.own 1 0 [],.own 1 0 [],.lit (.bool false),.own 1 0 []] [(0,(.t 42))]),
 oo 44 (.build 33 [.own 6 0 [],.lit (.int .i64 0)] [(0,0,1,(.t 43))]),
 oo 8 (.alloc 33 [.own 6 0 [],.lit (.int .i64 0)]),
 ov (.store 33 2 (.t 8) (.t 44))]) (.seq (.reg [oo 9 (.asg (.nl 3))]) (.seq (.reg [om 45 0,
 oo 46 (.iaddr 22 1 (.t 45) (.n 0)),
 oo 47 (.load 3 none (.t 46)),
 oc 48 5 [(false,(.t 47)),(false,(.n 1000))] [3,3],
 oo 10 (.asg (.t 48))]) (.seq (.reg [oo 49 (.build 26 [.own 1 0 [],.lit (.bool false)] [(1,1,1,(.c (.bool true)))]),
 om 50 10,
 oo 51 (.bslice 22 3 1 1 [.lit (.int .i64 0)] [(0,(.t 50))]),
 oo 52 (.build 28 [.own 1 0 [],.lit (.bool false),.own 1 0 []] [(0,0,2,(.t 49)),(1,2,1,(.t 51))]),
 oo 11 (.alloc 28 [.own 1 0 [],.lit (.bool false),.own 1 0 []]),
 ov (.store 28 3 (.t 11) (.t 52))]) (.seq (.reg [oo 12 (.asg (.n 0))]) (.seq (.seq (.reg [oo 13 (.asg (.n 0))]) (.block 0 (.loop a1o))) (.seq (.reg [om 101 12,
 oo 102 (.faddr 33 1 (.t 8) 1),
 ov (.store 3 1 (.t 102) (.t 101))]) (.seq (.reg [oo 104 (.load 33 (some 2) (.t 8)),
 oo 105 (.load 28 (some 3) (.t 11)),
 om 106 9,
 oc 107 6 [(false,(.t 104)),(false,(.t 105)),(false,(.t 106))] [33,28,34],
 oo 103 (.mva (.t 107)),
 oo 108 (.ext (.t 103) 0),
 oo 109 (.ext (.t 103) 1),
 oo 15 (.alloc 28 [.own 1 0 [],.lit (.bool false),.own 1 0 []]),
 ov (.store 28 3 (.t 15) (.t 108)),
 oo 16 (.asg (.t 109))]) (.seq (.seq (.reg [om 110 16,
 oo 111 (.bin .neq 38 2 (.t 110) (.c .nilIface) 38),
 om 112 111,
 og 113 (.faddr 28 2 (.t 15) 1) 2 112 false,
 og 114 (.load 22 none (.t 113)) 2 112 false,
 og 115 (.mv (.t 10)) 2 112 false,
 og 116 (.bslice 22 3 1 1 [.lit (.int .i64 0)] [(0,(.t 115))]) 2 112 false,
 ⟨(some 117),.call 7 [(false,(.t 114)),(false,(.t 116))] [22,22],(some (2,112,false))⟩,
 og 118 (.un .not 4 (.t 117)) 2 112 false,
 oo 119 (.pick (.t 112) (.c (.bool true)) (.t 118))]) (.cond (.t 119) (.seq (.reg [oo 6 (.asg (.c (.bool false)))]) .ret) .skip)) (.seq (.reg [om 120 9,
 oc 121 8 [(false,(.t 120))] [34],
 oo 17 (.asg (.t 121))]) (.seq (.seq (.reg [om 122 2,
 oc 123 5 [(false,(.t 122)),(false,(.n 3))] [3,3]]) (.block 2 (.seq (.reg [oo 138 (.bin .eql 3 0 (.t 123) (.n 0) 3),
 oo 137 (.asg (.t 138))]) (.cond (.t 137) (.reg [om 139 17,
 om 140 1,
 oo 141 (.bin .sub 3 0 (.t 140) (.n 1) 3),
 oo 142 (.slice 34 3 (.t 139) none (some (.t 141)) none),
 oo 17 (.asg (.t 142))]) (.seq (.reg [oo 144 (.bin .eql 3 0 (.t 123) (.n 1) 3),
 oo 143 (.asg (.t 144))]) (.cond (.t 143) (.reg [om 145 17,
 om 146 9,
 oo 147 (.iaddr 34 3 (.t 146) (.n 0)),
 oo 148 (.load 28 (some 3) (.t 147)),
 oo 149 (.bslice 34 28 3 1 [.own 1 0 [],.lit (.bool false),.own 1 0 []] [(0,(.t 148))]),
 oo 150 (.app 34 28 3 56 (.t 145) (.t 149)),
 oo 17 (.asg (.t 150))]) (.seq (.reg [om 124 17,
 om 125 1,
 oo 126 (.bin .sub 3 0 (.t 125) (.n 1) 3),
 oo 127 (.iaddr 34 3 (.t 124) (.t 126)),
 oo 128 (.faddr 28 0 (.t 127) 0),
 oo 129 (.faddr 26 1 (.t 128) 1),
 ov (.store 4 1 (.t 129) (.c (.bool false)))]) (.reg [om 130 17,
 om 131 1,
 oo 132 (.bin .sub 3 0 (.t 131) (.n 1) 3),
 oo 133 (.iaddr 34 3 (.t 130) (.t 132)),
 oo 134 (.faddr 28 2 (.t 133) 1),
 oo 135 (.load 22 none (.t 134)),
 oo 136 (.iaddr 22 1 (.t 135) (.n 0)),
 ov (.store 3 1 (.t 136) (.n 1))])))))))) (.seq (.reg [oo 152 (.load 33 (some 2) (.t 8)),
 oo 153 (.load 28 (some 3) (.t 11)),
 om 154 17,
 oc 155 6 [(false,(.t 152)),(false,(.t 153)),(false,(.t 154))] [33,28,34],
 oo 151 (.mva (.t 155)),
 oo 156 (.ext (.t 151) 0),
 oo 157 (.ext (.t 151) 1),
 oo 18 (.alloc 28 [.own 1 0 [],.lit (.bool false),.own 1 0 []]),
 ov (.store 28 3 (.t 18) (.t 156)),
 oo 19 (.asg (.t 157))]) (.seq (.draw lodgelaw19_DenWeights_r33 [[],[],[1],[2],[],[0,3,4],[5],[6],[6],[],[9,7,5,0,1,2,3,4,5,6,7,9],[8,10,0,1,2,3,4,5,6,7,8,9,10]]) (.seq (.reg lodgelaw19_DenWeights_r34) .ret)))))))))))))))))))
abbrev a6x:Nat:=3
theorem a5r:fnC pg 3 173 [(.tmp 6)] a30:=a0w Go.Proofs.Tryz.f3 [(.tmp 6)] (by kernel_rfl)
@[go_sem] theorem b5e:fnB pg 3=true:=by kernel_rfl
def a5w:IC:=(.seq (.reg [oo 0 (.asg (.c (.bool false)))]) (.seq (.reg [oo 5 (.bslice 22 3 1 2 [.lit (.int .i64 0)] [(0,(.n 0)),(1,(.n 1))]),
 oo 6 (.build 30 [.lit (.int .i64 0),.own 1 0 [],.own 1 0 [],.own 1 0 [],.lit (.bool false),.own 1 0 []] [(0,0,1,(.n 1)),(2,2,1,(.t 5))]),
 oo 7 (.bslice 31 30 6 1 [.lit (.int .i64 0),.own 1 0 [],.own 1 0 [],.own 1 0 [],.lit (.bool false),.own 1 0 []] [(0,(.t 6))]),
 oo 8 (.build 33 [.own 6 0 [],.lit (.int .i64 0)] [(0,0,1,(.t 7))]),
 oo 1 (.alloc 33 [.own 6 0 [],.lit (.int .i64 0)]),
 ov (.store 33 2 (.t 1) (.t 8))]) (.seq (.reg [oo 9 (.bslice 22 3 1 1 [.lit (.int .i64 0)] [(0,(.n 1))]),
 oo 10 (.build 26 [.own 1 0 [],.lit (.bool false)] [(0,0,1,(.t 9))]),
 oo 11 (.bslice 22 3 1 1 [.lit (.int .i64 0)] [(0,(.n 4))]),
 oo 12 (.build 28 [.own 1 0 [],.lit (.bool false),.own 1 0 []] [(0,0,2,(.t 10)),(1,2,1,(.t 11))]),
 oo 2 (.alloc 28 [.own 1 0 [],.lit (.bool false),.own 1 0 []]),
 ov (.store 28 3 (.t 2) (.t 12))]) (.seq (.reg [oo 14 (.load 33 (some 2) (.t 1)),
 oo 15 (.load 28 (some 3) (.t 2)),
 oc 16 6 [(false,(.t 14)),(false,(.t 15)),(false,(.nl 3))] [33,28,34],
 oo 13 (.mva (.t 16)),
 oo 17 (.ext (.t 13) 0),
 oo 18 (.ext (.t 13) 1),
 oo 3 (.alloc 28 [.own 1 0 [],.lit (.bool false),.own 1 0 []]),
 ov (.store 28 3 (.t 3) (.t 17)),
 oo 4 (.asg (.t 18))]) (.seq (.reg [om 19 4,
 oo 20 (.bin .eql 38 2 (.t 19) (.c .nilIface) 38),
 om 21 20,
 og 22 (.load 28 (some 3) (.t 3)) 2 21 true,
 og 23 (.load 28 (some 3) (.t 2)) 2 21 true,
 ⟨(some 24),.call 10 [(false,(.t 22)),(false,(.t 23))] [28,28],(some (2,21,true))⟩,
 oo 25 (.pick (.t 21) (.t 24) (.c (.bool false))),
 oo 0 (.asg (.t 25))]) .ret)))))
abbrev a9x:Nat:=4
theorem a70:fnC pg 4 26 [(.tmp 0)] a5w:=a0w Go.Proofs.Tryz.f4 [(.tmp 0)] (by kernel_rfl)
@[go_sem] theorem c0m:fnB pg 4=true:=by kernel_rfl
def b63:IC:=(.seq (.reg [oo 3 (.box 33 2 (.t 0)),
 oo 4 (.box 28 3 (.t 1)),
 oo 6 (.alloc 28 [.own 1 0 [],.lit (.bool false),.own 1 0 []]),
 oo 7 (.asg (.c .nilIface))]) (.seq (.reg [oo 11 (.load 33 (some 2) (.t 3)),
 oo 12 (.load 28 (some 3) (.t 4)),
 om 13 2,
 oc 14 11 [(false,(.t 11)),(false,(.t 12)),(false,(.t 13))] [33,28,34],
 oo 10 (.mva (.t 14)),
 oo 15 (.ext (.t 10) 0),
 oo 16 (.ext (.t 10) 1),
 oo 8 (.asg (.t 15)),
 oo 9 (.asg (.t 16))]) (.seq (.seq (.reg [om 17 9,
 oo 18 (.bin .neq 38 2 (.t 17) (.c .nilIface) 38)]) (.cond (.t 18) (.seq (.reg [oo 19 (.build 28 [.sl 0 [],.lit (.bool false),.sl 0 []] []),
 om 20 9,
 ov (.store 28 3 (.t 6) (.t 19)),
 oo 7 (.asg (.t 20))]) .ret) .skip)) (.seq (.reg [om 21 8,
 oo 22 (.faddr 33 1 (.t 3) 1),
 oo 23 (.load 3 none (.t 22)),
 oo 24 (.iaddr 34 3 (.t 21) (.t 23)),
 oo 25 (.load 28 (some 3) (.t 24)),
 ov (.store 28 3 (.t 6) (.t 25)),
 oo 7 (.asg (.c .nilIface))]) .ret))))
abbrev a8h:Nat:=6
theorem b3t:fnC pg 6 26 [(.cells 6 3),(.tmp 7)] b63:=a0w Go.Proofs.Tryz.f6 [(.cell 6 28),(.tmp 7)] (by kernel_rfl)
@[go_sem] theorem d66:fnB pg 6=true:=by kernel_rfl
def a8j:IC:=(.seq (.reg [oo 46 (.bin .lss 3 0 (.t 45) (.t 44) 3)]) (.seq (.cond (.t 46) .skip (.exit 0)) (.seq (.block 1 (.seq (.reg [om 47 45,
 oo 48 (.iaddr 34 3 (.t 43) (.t 45)),
 oo 49 (.load 28 (some 3) (.t 48)),
 oo 12 (.alloc 28 [.own 1 0 [],.lit (.bool false),.own 1 0 []]),
 oo 11 (.asg (.t 47)),
 ov (.store 28 3 (.t 12) (.t 49))]) (.seq (.draw [oo 50 (.load 28 (some 3) (.t 12)),
 oo 51 (.faddr 56 4 (.t 8) 3),
 oo 52 (.load 54 none (.t 51)),
 om 53 11,
 oo 54 (.iaddr 54 2 (.t 52) (.t 53)),
 oo 55 (.load 26 (some 2) (.t 54)),
 oc 56 17 [(false,(.t 50)),(false,(.t 55))] [28,26],
 oo 13 (.asg (.t 56))] [[],[],[1],[],[2,3],[4],[0,5],[6,6,0,1,2,3,4,5,6]]) (.seq (.reg [om 57 13,
 oo 58 (.bin .neq 38 2 (.t 57) (.c .nilIface) 38)]) (.cond (.t 58) (.seq (.reg [om 59 13,
 oo 6 (.asg (.nl 3)),
 oo 7 (.asg (.t 59))]) .ret) .skip))))) (.reg [oo 60 (.bin .add 3 0 (.t 45) (.n 1) 3),
 om 45 60]))))
def a8k:IC:=(.seq (.reg [oo 83 (.bin .lss 3 0 (.t 82) (.t 81) 3)]) (.seq (.cond (.t 83) .skip (.exit 5)) (.seq (.block 6 (.seq (.reg [oo 84 (.iaddr 22 1 (.t 80) (.t 82)),
 oo 85 (.load 3 none (.t 84)),
 oo 20 (.asg (.t 85))]) (.reg [om 86 18,
 om 87 14,
 om 88 20,
 oo 89 (.iaddr 34 3 (.t 87) (.t 88)),
 oo 90 (.load 28 (some 3) (.t 89)),
 oo 91 (.bslice 34 28 3 1 [.own 1 0 [],.lit (.bool false),.own 1 0 []] [(0,(.t 90))]),
 oo 92 (.app 34 28 3 56 (.t 86) (.t 91)),
 oo 18 (.asg (.t 92))]))) (.reg [oo 93 (.bin .add 3 0 (.t 82) (.n 1) 3),
 om 82 93]))))
def a4e:IC:=(.seq (.reg [oo 69 (.bin .lss 3 0 (.t 68) (.t 67) 3)]) (.seq (.cond (.t 69) .skip (.exit 2)) (.seq (.block 3 (.seq (.reg [oo 70 (.iaddr 22 1 (.t 66) (.t 68)),
 oo 71 (.load 3 none (.t 70)),
 oo 16 (.asg (.t 71))]) (.seq (.reg [oo 72 (.faddr 33 0 (.t 3) 0),
 oo 73 (.load 31 none (.t 72)),
 om 74 16,
 oo 75 (.iaddr 31 6 (.t 73) (.t 74)),
 oo 76 (.load 30 (some 6) (.t 75)),
 oo 17 (.alloc 30 [.lit (.int .i64 0),.own 1 0 [],.own 1 0 [],.own 1 0 [],.lit (.bool false),.own 1 0 []]),
 ov (.store 30 6 (.t 17) (.t 76))]) (.seq (.reg [oo 77 (.faddr 30 0 (.t 17) 0),
 oo 78 (.load 3 none (.t 77))]) (.block 4 (.seq (.reg [oo 110 (.bin .eql 3 0 (.t 78) (.n 1) 3),
 oo 109 (.asg (.t 110))]) (.cond (.t 109) (.reg [om 111 14,
 om 112 16,
 oo 113 (.load 28 (some 3) (.t 4)),
 oc 114 18 [(false,(.t 113))] [28],
 oo 115 (.iaddr 34 3 (.t 111) (.t 112)),
 ov (.store 28 3 (.t 115) (.t 114))]) (.seq (.reg [oo 117 (.bin .eql 3 0 (.t 78) (.n 3) 3),
 oo 116 (.asg (.t 117))]) (.cond (.t 116) (.reg [om 118 14,
 om 119 16,
 om 120 2,
 oo 121 (.faddr 30 2 (.t 17) 2),
 oo 122 (.load 22 none (.t 121)),
 oo 123 (.iaddr 22 1 (.t 122) (.n 0)),
 oo 124 (.load 3 none (.t 123)),
 oo 125 (.iaddr 34 3 (.t 120) (.t 124)),
 oo 126 (.load 28 (some 3) (.t 125)),
 oc 127 18 [(false,(.t 126))] [28],
 oo 128 (.iaddr 34 3 (.t 118) (.t 119)),
 ov (.store 28 3 (.t 128) (.t 127))]) (.seq (.reg [oo 130 (.bin .eql 3 0 (.t 78) (.n 2) 3),
 oo 129 (.asg (.t 130))]) (.cond (.t 129) (.reg [om 131 14,
 om 132 16,
 oo 133 (.faddr 30 3 (.t 17) 3),
 oo 134 (.load 28 (some 3) (.t 133)),
 oc 135 18 [(false,(.t 134))] [28],
 oo 136 (.iaddr 34 3 (.t 131) (.t 132)),
 ov (.store 28 3 (.t 136) (.t 135))]) (.seq (.reg [oo 18 (.asg (.nl 3))]) (.seq (.seq (.reg [oo 79 (.faddr 30 1 (.t 17) 1),
 oo 80 (.load 22 none (.t 79)),
 oo 81 (.len 22 false (.t 80)),
 oo 82 (.mv (.n 0))]) (.block 5 (.loop a8k))) (.seq (.reg [om 95 14,
 om 96 16,
 oo 97 (.faddr 30 0 (.t 17) 0),
 oo 98 (.load 3 none (.t 97)),
 oo 99 (.faddr 30 2 (.t 17) 2),
 oo 100 (.load 22 none (.t 99)),
 om 101 18,
 oc 102 19 [(false,(.t 98)),(false,(.t 100)),(false,(.t 101))] [3,22,34],
 oo 94 (.mva (.t 102)),
 oo 103 (.ext (.t 94) 0),
 oo 104 (.ext (.t 94) 1),
 oo 105 (.iaddr 34 3 (.t 95) (.t 96)),
 ov (.store 28 3 (.t 105) (.t 103)),
 oo 9 (.asg (.t 104))]) (.seq (.reg [om 106 9,
 oo 107 (.bin .neq 38 2 (.t 106) (.c .nilIface) 38)]) (.cond (.t 107) (.seq (.reg [om 108 9,
 oo 6 (.asg (.nl 3)),
 oo 7 (.asg (.t 108))]) .ret) .skip)))))))))))))))) (.reg [oo 137 (.bin .add 3 0 (.t 68) (.n 1) 3),
 om 68 137]))))
def b3s:IC:=(.seq (.reg [oo 3 (.box 33 2 (.t 0)),
 oo 4 (.box 28 3 (.t 1)),
 oo 6 (.asg (.nl 3)),
 oo 7 (.asg (.c .nilIface))]) (.seq (.reg [oo 22 (.load 33 (some 2) (.t 3)),
 oc 23 16 [(false,(.t 22))] [33],
 oo 21 (.mva (.t 23)),
 oo 24 (.ext (.t 21) 0),
 oo 25 (.ext (.t 21) 1),
 oo 8 (.alloc 56 [.own 1 0 [],.own 2 0 [],.own 1 0 [],.lit (.bool false),.own 2 0 []]),
 ov (.store 56 5 (.t 8) (.t 24)),
 oo 9 (.asg (.t 25))]) (.seq (.seq (.reg [om 26 9,
 oo 27 (.bin .neq 38 2 (.t 26) (.c .nilIface) 38)]) (.cond (.t 27) (.seq (.reg [om 28 9,
 oo 6 (.asg (.nl 3)),
 oo 7 (.asg (.t 28))]) .ret) .skip)) (.seq (.seq (.reg [oo 29 (.load 28 (some 3) (.t 4)),
 oo 30 (.faddr 56 2 (.t 8) 2),
 oo 31 (.load 26 (some 2) (.t 30)),
 oc 32 17 [(false,(.t 29)),(false,(.t 31))] [28,26],
 oo 10 (.asg (.t 32))]) (.seq (.reg [om 33 10,
 oo 34 (.bin .neq 38 2 (.t 33) (.c .nilIface) 38)]) (.cond (.t 34) (.seq (.reg [om 35 10,
 oo 6 (.asg (.nl 3)),
 oo 7 (.asg (.t 35))]) .ret) .skip))) (.seq (.seq (.reg [om 36 2,
 oo 37 (.len 34 false (.t 36)),
 oo 38 (.faddr 56 4 (.t 8) 3),
 oo 39 (.load 54 none (.t 38)),
 oo 40 (.len 54 false (.t 39)),
 oo 41 (.bin .neq 3 0 (.t 37) (.t 40) 3)]) (.cond (.t 41) (.seq (.draw [oo 42 (.load 38 none (.g 0)),
 oo 6 (.asg (.nl 3)),
 oo 7 (.asg (.t 42))] [[],[],[0,1,0,1]]) .ret) .skip)) (.seq (.seq (.reg [om 43 2,
 oo 44 (.len 34 false (.t 43)),
 oo 45 (.mv (.n 0))]) (.block 0 (.loop a8j))) (.seq (.reg [oo 61 (.faddr 33 0 (.t 3) 0),
 oo 62 (.load 31 none (.t 61)),
 oo 63 (.len 31 false (.t 62)),
 oo 64 (.mks 34 28 3 56 [.sl 0 [],.lit (.bool false),.sl 0 []] (.t 63) (.t 63)),
 oo 14 (.asg (.t 64))]) (.seq (.seq (.reg [oo 65 (.faddr 56 0 (.t 8) 0),
 oo 66 (.load 22 none (.t 65)),
 oo 67 (.len 22 false (.t 66)),
 oo 68 (.mv (.n 0))]) (.block 2 (.loop a4e))) (.seq (.reg [om 138 14,
 oo 6 (.asg (.t 138)),
 oo 7 (.asg (.c .nilIface))]) .ret)))))))))
abbrev b8e:Nat:=11
theorem b13:fnC pg 11 139 [(.tmp 6),(.tmp 7)] b3s:=a0w Go.Proofs.Tryz.f11 [(.tmp 6),(.tmp 7)] (by kernel_rfl)
@[go_sem] theorem d3v:fnB pg 11=true:=by kernel_rfl
def b5s:IC:=(.seq (.reg [oo 2 (.box 28 3 (.t 0)),
 oo 3 (.box 26 2 (.t 1)),
 oo 4 (.asg (.c .nilIface))]) (.seq (.seq (.reg [oo 6 (.load 28 (some 3) (.t 2)),
 oc 7 27 [(false,(.t 6))] [28],
 oo 5 (.asg (.t 7))]) (.seq (.reg [om 8 5,
 oo 9 (.bin .neq 38 2 (.t 8) (.c .nilIface) 38)]) (.cond (.t 9) (.seq (.reg [om 10 5,
 oo 4 (.asg (.t 10))]) .ret) .skip))) (.seq (.seq (.reg [oo 11 (.faddr 28 0 (.t 2) 0),
 oo 12 (.load 26 (some 2) (.t 11)),
 oo 13 (.load 26 (some 2) (.t 3)),
 oc 14 28 [(false,(.t 12)),(false,(.t 13))] [26,26],
 oo 15 (.un .not 4 (.t 14))]) (.cond (.t 15) (.seq (.reg [oo 16 (.load 38 none (.g 0)),
 oo 4 (.asg (.t 16))]) .ret) .skip)) (.seq (.reg [oo 4 (.asg (.c .nilIface))]) .ret))))
abbrev c32:Nat:=17
theorem b64:fnC pg 17 17 [(.tmp 4)] b5s:=a0w Go.Proofs.Tryz.f17 [(.tmp 4)] (by kernel_rfl)
@[go_sem] theorem d19:fnB pg 17=true:=by kernel_rfl
def a63:IC:=(.seq (.reg [oo 34 (.bin .lss 3 0 (.t 33) (.t 32) 3)]) (.seq (.cond (.t 34) .skip (.exit 0)) (.seq (.block 1 (.seq (.reg [om 35 33,
 oo 13 (.asg (.t 35))]) (.draw [oo 36 (.faddr 28 2 (.t 11) 1),
 oo 37 (.load 22 none (.t 36)),
 om 38 0,
 om 39 1,
 om 40 13,
 oo 41 (.load 26 (some 2) (.t 8)),
 om 42 9,
 om 43 12,
 oc 44 34 [(false,(.t 38)),(false,(.t 39)),(false,(.t 40)),(false,(.t 41)),(false,(.t 42)),(false,(.t 43))] [3,22,3,26,54,78],
 oo 45 (.bslice 22 3 1 1 [.lit (.int .i64 0)] [(0,(.t 44))]),
 oo 46 (.app 22 3 1 8 (.t 37) (.t 45)),
 oo 47 (.faddr 28 2 (.t 11) 1),
 ov (.store 22 1 (.t 47) (.t 46))] [[],[0],[],[],[],[],[],[],[2,3,4,5,6,7],[8],[1,9,8],[0,1,2,3,4,5,6,7,8,9,10],[11,10,10,0,1,2,3,4,5,6,7,8,9,10]]))) (.reg [oo 48 (.bin .add 3 0 (.t 33) (.n 1) 3),
 om 33 48]))))
def b57:IC:=(.seq (.reg [oo 6 (.alloc 28 [.own 1 0 [],.lit (.bool false),.own 1 0 []]),
 oo 7 (.asg (.c .nilIface))]) (.seq (.reg [om 15 0,
 om 16 1,
 om 17 2,
 oc 18 31 [(false,(.t 15)),(false,(.t 16)),(false,(.t 17))] [3,22,34],
 oo 14 (.mva (.t 18)),
 oo 19 (.ext (.t 14) 0),
 oo 20 (.ext (.t 14) 1),
 oo 21 (.ext (.t 14) 2),
 oo 8 (.alloc 26 [.own 1 0 [],.lit (.bool false)]),
 ov (.store 26 2 (.t 8) (.t 19)),
 oo 9 (.asg (.t 20)),
 oo 10 (.asg (.t 21))]) (.seq (.seq (.reg [om 22 10,
 oo 23 (.bin .neq 38 2 (.t 22) (.c .nilIface) 38)]) (.cond (.t 23) (.seq (.reg [oo 24 (.build 28 [.sl 0 [],.lit (.bool false),.sl 0 []] []),
 om 25 10,
 ov (.store 28 3 (.t 6) (.t 24)),
 oo 7 (.asg (.t 25))]) .ret) .skip)) (.seq (.reg [oo 26 (.load 26 (some 2) (.t 8)),
 oo 27 (.build 28 [.own 1 0 [],.lit (.bool false),.own 1 0 []] [(0,0,2,(.t 26))]),
 oo 11 (.alloc 28 [.own 1 0 [],.lit (.bool false),.own 1 0 []]),
 ov (.store 28 3 (.t 11) (.t 27))]) (.seq (.reg [om 28 2,
 oc 29 32 [(false,(.t 28))] [34],
 oo 12 (.asg (.t 29))]) (.seq (.seq (.reg [oo 30 (.faddr 26 0 (.t 8) 0),
 oo 31 (.load 22 none (.t 30)),
 oc 32 33 [(false,(.t 31))] [22],
 oo 33 (.mv (.n 0))]) (.block 0 (.loop a63))) (.seq (.reg [oo 49 (.load 28 (some 3) (.t 11)),
 ov (.store 28 3 (.t 6) (.t 49)),
 oo 7 (.asg (.c .nilIface))]) .ret)))))))
abbrev c33:Nat:=19
theorem b7n:fnC pg 19 50 [(.cells 6 3),(.tmp 7)] b57:=a0w Go.Proofs.Tryz.f19 [(.cell 6 28),(.tmp 7)] (by kernel_rfl)
@[go_sem] theorem d2p:fnB pg 19=true:=by kernel_rfl
def a5z:IC:=(.seq (.reg [oo 18 (.bin .lss 3 0 (.t 17) (.t 16) 3)]) (.seq (.cond (.t 18) .skip (.exit 0)) (.seq (.block 1 (.seq (.reg [oo 19 (.iaddr 34 3 (.t 15) (.t 17)),
 oo 20 (.load 28 (some 3) (.t 19)),
 oo 11 (.alloc 28 [.own 1 0 [],.lit (.bool false),.own 1 0 []]),
 ov (.store 28 3 (.t 11) (.t 20))]) (.seq (.seq (.reg [oo 21 (.load 28 (some 3) (.t 11)),
 oc 22 27 [(false,(.t 21))] [28],
 oo 12 (.asg (.t 22))]) (.seq (.reg [om 23 12,
 oo 24 (.bin .neq 38 2 (.t 23) (.c .nilIface) 38)]) (.cond (.t 24) (.seq (.reg [oo 25 (.build 26 [.sl 0 [],.lit (.bool false)] []),
 om 26 12,
 ov (.store 26 2 (.t 6) (.t 25)),
 oo 7 (.asg (.nl 2)),
 oo 8 (.asg (.t 26))]) .ret) .skip))) (.reg [om 27 9,
 oo 28 (.faddr 28 0 (.t 11) 0),
 oo 29 (.load 26 (some 2) (.t 28)),
 oo 30 (.bslice 54 26 2 1 [.own 1 0 [],.lit (.bool false)] [(0,(.t 29))]),
 oo 31 (.app 54 26 2 32 (.t 27) (.t 30)),
 oo 9 (.asg (.t 31))])))) (.reg [oo 32 (.bin .add 3 0 (.t 17) (.n 1) 3),
 om 17 32]))))
def a9s:IC:=(.seq (.reg [oo 6 (.alloc 26 [.own 1 0 [],.lit (.bool false)]),
 oo 7 (.asg (.nl 2)),
 oo 8 (.asg (.c .nilIface))]) (.seq (.reg [oo 9 (.asg (.nl 2))]) (.seq (.seq (.reg [om 15 2,
 oo 16 (.len 34 false (.t 15)),
 oo 17 (.mv (.n 0))]) (.block 0 (.loop a5z))) (.seq (.reg [om 34 0,
 om 35 1,
 om 36 9,
 oc 37 40 [(false,(.t 34)),(false,(.t 35)),(false,(.t 36))] [3,22,54],
 oo 33 (.mva (.t 37)),
 oo 38 (.ext (.t 33) 0),
 oo 39 (.ext (.t 33) 1),
 oo 13 (.alloc 26 [.own 1 0 [],.lit (.bool false)]),
 ov (.store 26 2 (.t 13) (.t 38)),
 oo 14 (.asg (.t 39))]) (.seq (.reg [oo 40 (.load 26 (some 2) (.t 13)),
 om 41 9,
 om 42 14,
 ov (.store 26 2 (.t 6) (.t 40)),
 oo 7 (.asg (.t 41)),
 oo 8 (.asg (.t 42))]) .ret)))))
abbrev c0s:Nat:=31
theorem a85:fnC pg 31 43 [(.cells 6 2),(.tmp 7),(.tmp 8)] a9s:=a0w Go.Proofs.Tryz.f31 [(.cell 6 26),(.tmp 7),(.tmp 8)] (by kernel_rfl)
@[go_sem] theorem d1a:fnB pg 31=true:=by kernel_rfl
def a64:IC:=(.seq (.reg [oo 9 (.bin .lss 3 0 (.t 8) (.t 7) 3)]) (.seq (.cond (.t 9) .skip (.exit 0)) (.seq (.block 1 (.seq (.reg [oo 10 (.iaddr 34 3 (.t 6) (.t 8)),
 oo 11 (.load 28 (some 3) (.t 10)),
 oo 5 (.alloc 28 [.own 1 0 [],.lit (.bool false),.own 1 0 []]),
 ov (.store 28 3 (.t 5) (.t 11))]) (.reg [om 12 3,
 oo 13 (.mkz 47 [] [(.t 5)]),
 oo 14 (.bslice 78 95 1 1 [.lit .nilFunc] [(0,(.t 13))]),
 oo 15 (.app 78 95 1 8 (.t 12) (.t 14)),
 oo 3 (.asg (.t 15))]))) (.reg [oo 16 (.bin .add 3 0 (.t 8) (.n 1) 3),
 om 8 16]))))
def b6a:IC:=(.seq (.reg [oo 2 (.asg (.nl 1))]) (.seq (.reg [oo 3 (.asg (.nl 1))]) (.seq (.seq (.reg [om 6 0,
 oo 7 (.len 34 false (.t 6)),
 oo 8 (.mv (.n 0))]) (.block 0 (.loop a64))) (.seq (.reg [om 17 3,
 oo 2 (.asg (.t 17))]) .ret))))
abbrev c35:Nat:=32
theorem b7q:fnC pg 32 18 [(.tmp 2)] b6a:=a0w Go.Proofs.Tryz.f32 [(.tmp 2)] (by kernel_rfl)
@[go_sem] theorem d2r:fnB pg 32=true:=by kernel_rfl
def c2c:IC:=(.seq (.reg [oo 9 (.box 26 2 (.t 3)),
 oo 12 (.asg (.n 0))]) (.seq (.reg [om 17 4,
 oo 18 (.iaddr 54 2 (.t 17) (.n 0)),
 oo 19 (.faddr 26 0 (.t 18) 0),
 oo 20 (.load 22 none (.t 19)),
 oo 13 (.asg (.t 20))]) (.seq (.seq (.reg [om 21 0]) (.block 0 (.seq (.reg [oo 23 (.bin .eql 3 0 (.t 21) (.n 12) 3),
 oo 22 (.asg (.t 23))]) (.cond (.t 22) (.seq (.draw [om 24 13,
 oo 25 (.iaddr 22 1 (.t 24) (.n 1)),
 oo 26 (.load 3 none (.t 25)),
 om 27 4,
 oo 28 (.iaddr 54 2 (.t 27) (.n 1)),
 oo 29 (.faddr 26 0 (.t 28) 0),
 oo 30 (.load 22 none (.t 29)),
 oo 31 (.iaddr 22 1 (.t 30) (.n 1)),
 oo 32 (.load 3 none (.t 31)),
 om 33 5,
 oo 34 (.iaddr 78 1 (.t 33) (.n 0)),
 oo 35 (.load 95 none (.t 34)),
 om 36 5,
 oo 37 (.iaddr 78 1 (.t 36) (.n 1)),
 oo 38 (.load 95 none (.t 37)),
 om 39 1,
 oo 40 (.iaddr 22 1 (.t 39) (.n 0)),
 oo 41 (.load 3 none (.t 40)),
 om 42 1,
 oo 43 (.iaddr 22 1 (.t 42) (.n 1)),
 oo 44 (.load 3 none (.t 43)),
 om 45 2,
 ⟨(some 46),.callx (.f 49) [(false,(.t 26)),(false,(.t 32)),(false,(.t 41)),(false,(.t 44)),(false,(.t 45))] [.p 0,.p 1,.x (.t 35),.x (.t 38),.p 2,.p 3,.p 4] [3,3,95,95,3,3,3],none⟩,
 oo 12 (.asg (.t 46))] [[],[0],[1],[],[3],[4],[5],[6],[7],[],[9],[10],[],[12],[13],[],[15],[16],[],[18],[19],[],[2,8,11,14,17,20,21],[22,22,0,1,2,3,4,5,6,7,8,9,10,11,12,13,14,15,16,17,18,19,20,21,22]]) .ret) (.seq (.reg [oo 48 (.bin .eql 3 0 (.t 21) (.n 13) 3),
 oo 47 (.asg (.t 48))]) (.cond (.t 47) (.seq (.draw [om 49 1,
 om 50 13,
 om 51 4,
 oo 52 (.iaddr 54 2 (.t 51) (.n 1)),
 oo 53 (.faddr 26 0 (.t 52) 0),
 oo 54 (.load 22 none (.t 53)),
 om 55 5,
 oo 56 (.iaddr 78 1 (.t 55) (.n 0)),
 oo 57 (.load 95 none (.t 56)),
 om 58 5,
 oo 59 (.iaddr 78 1 (.t 58) (.n 1)),
 oo 60 (.load 95 none (.t 59)),
 om 61 2,
 oo 62 (.faddr 26 0 (.t 9) 0),
 oo 63 (.load 22 none (.t 62)),
 oo 64 (.iaddr 22 1 (.t 63) (.n 1)),
 oo 65 (.load 3 none (.t 64)),
 ⟨(some 66),.callx (.f 50) [(false,(.t 49)),(false,(.t 50)),(false,(.t 54)),(false,(.t 61)),(false,(.t 65))] [.p 0,.p 1,.p 2,.x (.t 57),.x (.t 60),.p 3,.p 4] [22,22,22,95,95,3,3],none⟩,
 oo 12 (.asg (.t 66))] [[],[],[],[2],[3],[4],[],[6],[7],[],[9],[10],[],[],[13],[14],[15],[0,1,5,8,11,12,16],[17,17,0,1,2,3,4,5,6,7,8,9,10,11,12,13,14,15,16,17]]) .ret) (.seq (.seq (.reg [oo 68 (.bin .eql 3 0 (.t 21) (.n 14) 3),
 oo 67 (.asg (.t 68))]) (.cond (.t 67) .skip (.reg [oo 69 (.bin .eql 3 0 (.t 21) (.n 15) 3),
 oo 67 (.asg (.t 69))]))) (.cond (.t 67) (.seq (.draw [om 70 0,
 oo 71 (.bin .eql 3 0 (.t 70) (.n 15) 3),
 om 72 1,
 om 73 13,
 om 74 5,
 oo 75 (.iaddr 78 1 (.t 74) (.n 0)),
 oo 76 (.load 95 none (.t 75)),
 om 77 2,
 oo 78 (.faddr 26 0 (.t 9) 0),
 oo 79 (.load 22 none (.t 78)),
 oo 80 (.iaddr 22 1 (.t 79) (.n 1)),
 oo 81 (.load 3 none (.t 80)),
 ⟨(some 82),.callx (.f 51) [(false,(.t 71)),(false,(.t 72)),(false,(.t 73)),(false,(.t 77)),(false,(.t 81))] [.p 0,.p 1,.p 2,.x (.t 76),.p 3,.p 4] [4,22,22,95,3,3],none⟩,
 oo 12 (.asg (.t 82))] [[],[0],[],[],[],[4],[5],[],[],[8],[9],[10],[1,2,3,6,7,11],[12,12,0,1,2,3,4,5,6,7,8,9,10,11,12]]) .ret) (.seq (.seq (.reg [oo 84 (.bin .eql 3 0 (.t 21) (.n 16) 3),
 oo 83 (.asg (.t 84))]) (.cond (.t 83) .skip (.seq (.reg [oo 85 (.bin .eql 3 0 (.t 21) (.n 19) 3),
 oo 83 (.asg (.t 85))]) (.cond (.t 83) .skip (.seq (.reg [oo 86 (.bin .eql 3 0 (.t 21) (.n 20) 3),
 oo 83 (.asg (.t 86))]) (.cond (.t 83) .skip (.reg [oo 87 (.bin .eql 3 0 (.t 21) (.n 17) 3),
 oo 83 (.asg (.t 87))]))))))) (.cond (.t 83) (.seq (.reg [om 88 0,
 om 89 2,
 om 90 4,
 om 91 5,
 oc 92 52 [(false,(.t 88)),(false,(.t 89)),(false,(.t 90)),(false,(.t 91))] [3,3,54,78],
 oo 12 (.asg (.t 92))]) .ret) (.seq (.reg [oo 94 (.bin .eql 3 0 (.t 21) (.n 18) 3),
 oo 93 (.asg (.t 94))]) (.cond (.t 93) (.seq (.reg [om 95 5,
 oo 96 (.iaddr 78 1 (.t 95) (.n 0)),
 oo 97 (.load 95 none (.t 96)),
 om 98 2,
 ⟨(some 99),.callx (.t 97) [(false,(.t 98))] [.p 0] [3],none⟩,
 oo 12 (.asg (.t 99))]) .ret) (.seq (.reg [oo 101 (.bin .eql 3 0 (.t 21) (.n 21) 3),
 oo 100 (.asg (.t 101))]) (.cond (.t 100) (.seq (.draw [om 102 13,
 oo 103 (.iaddr 22 1 (.t 102) (.n 0)),
 oo 104 (.load 3 none (.t 103)),
 om 105 13,
 oo 106 (.iaddr 22 1 (.t 105) (.n 1)),
 oo 107 (.load 3 none (.t 106)),
 oo 14 (.asg (.t 104)),
 oo 15 (.asg (.t 107))] [[],[0],[1],[],[3],[4],[2,0,1,2],[5,6,0,1,2,3,4,5,6]]) (.seq (.draw [om 108 5,
 oo 109 (.iaddr 78 1 (.t 108) (.n 0)),
 oo 110 (.load 95 none (.t 109)),
 om 111 2,
 om 112 14,
 oo 113 (.bin .rem 3 0 (.t 111) (.t 112) 3),
 om 114 15,
 oo 115 (.bin .mul 3 0 (.t 113) (.t 114) 3),
 om 116 2,
 om 117 14,
 oo 118 (.bin .quo 3 0 (.t 116) (.t 117) 3),
 oo 119 (.bin .add 3 0 (.t 115) (.t 118) 3),
 ⟨(some 120),.callx (.t 110) [(false,(.t 119))] [.p 0] [3],none⟩,
 oo 12 (.asg (.t 120))] [[],[0],[1],[],[],[3,4],[],[5,6],[],[],[8,9],[7,10],[2,11],[12,12,0,1,2,3,4,5,6,7,8,9,10,11,12]]) .ret)) .skip)))))))))))))) (.seq (.reg [oo 16 (.asg (.n 0))]) (.seq (.seq (.reg [om 121 5,
 oo 122 (.len 78 false (.t 121)),
 oo 123 (.bin .gtr 3 0 (.t 122) (.n 1) 3)]) (.cond (.t 123) (.reg [om 124 5,
 oo 125 (.iaddr 78 1 (.t 124) (.n 1)),
 oo 126 (.load 95 none (.t 125)),
 om 127 2,
 ⟨(some 128),.callx (.t 126) [(false,(.t 127))] [.p 0] [3],none⟩,
 oo 16 (.asg (.t 128))]) .skip)) (.seq (.draw [om 129 0,
 om 130 4,
 oo 131 (.iaddr 54 2 (.t 130) (.n 0)),
 oo 132 (.faddr 26 1 (.t 131) 1),
 oo 133 (.load 4 none (.t 132)),
 om 134 5,
 oo 135 (.iaddr 78 1 (.t 134) (.n 0)),
 oo 136 (.load 95 none (.t 135)),
 om 137 2,
 ⟨(some 138),.callx (.t 136) [(false,(.t 137))] [.p 0] [3],none⟩,
 om 139 16,
 om 140 1,
 oc 141 53 [(false,(.t 129)),(false,(.t 133)),(false,(.t 138)),(false,(.t 139)),(false,(.t 140))] [3,4,3,3,22],
 oo 12 (.asg (.t 141))] [[],[],[1],[2],[3],[],[5],[6],[],[7,8],[],[],[0,4,9,10,11,9],[12,12,0,1,2,3,4,5,6,7,8,9,10,11,12]]) .ret))))))
abbrev b6o:Nat:=34
theorem b58:fnC pg 34 142 [(.tmp 12)] c2c:=a0w Go.Proofs.Tryz.f34 [(.tmp 12)] (by kernel_rfl)
@[go_sem] theorem e41:fnB pg 34=true:=by kernel_rfl
def b2d:IC:=(.seq (.reg [oo 3 (.asg (.n 0))]) (.seq (.reg [oo 4 (.faddr 28 2 (.t 1) 1),
 oo 5 (.load 22 none (.t 4)),
 om 6 0,
 oo 7 (.iaddr 22 1 (.t 5) (.t 6)),
 oo 8 (.load 3 none (.t 7)),
 oo 3 (.asg (.t 8))]) .ret))
abbrev b1z:Nat:=47
@[go_sem] theorem c85:fnB pg 47=true:=by kernel_rfl
theorem b2y:fnX pg 47 9 [(.tmp 3)] [(.tmp 3)] b2d:=c3b Go.Proofs.Tryz.f47 (by kernel_rfl)
def a2f:IC:=(.seq (.reg [oo 10 (.asg (.n 0))]) (.seq (.seq (.reg [om 15 0,
 oc 16 71 [(false,(.t 15))] [3],
 oo 14 (.mva (.t 16)),
 oo 17 (.ext (.t 14) 0),
 oo 18 (.ext (.t 14) 1),
 oo 19 (.ext (.t 14) 2),
 oo 11 (.asg (.t 17)),
 oo 12 (.asg (.t 18)),
 oo 13 (.asg (.t 19))]) (.seq (.reg [om 20 4,
 oo 21 (.len 22 false (.t 20)),
 om 22 12,
 oo 23 (.bin .lss 3 0 (.t 21) (.t 22) 3)]) (.cond (.t 23) (.seq (.reg [oo 10 (.asg (.n 0))]) .ret) .skip))) (.seq (.seq (.reg [om 24 0]) (.block 0 (.seq (.reg [oo 26 (.bin .eql 3 0 (.t 24) (.n 4) 3),
 oo 25 (.asg (.t 26))]) (.cond (.t 25) (.seq (.reg [om 27 2,
 om 28 3,
 oo 29 (.bin .add 3 0 (.t 27) (.t 28) 3),
 om 30 1,
 oc 31 72 [(false,(.t 29)),(false,(.t 30))] [3,4],
 oo 10 (.asg (.t 31))]) .ret) (.seq (.reg [oo 33 (.bin .eql 3 0 (.t 24) (.n 5) 3),
 oo 32 (.asg (.t 33))]) (.cond (.t 32) (.seq (.reg [om 34 2,
 om 35 3,
 oo 36 (.bin .sub 3 0 (.t 34) (.t 35) 3),
 om 37 1,
 oc 38 72 [(false,(.t 36)),(false,(.t 37))] [3,4],
 oo 10 (.asg (.t 38))]) .ret) (.seq (.reg [oo 40 (.bin .eql 3 0 (.t 24) (.n 6) 3),
 oo 39 (.asg (.t 40))]) (.cond (.t 39) (.seq (.reg [om 41 2,
 om 42 3,
 oo 43 (.bin .mul 3 0 (.t 41) (.t 42) 3),
 om 44 1,
 oc 45 72 [(false,(.t 43)),(false,(.t 44))] [3,4],
 oo 10 (.asg (.t 45))]) .ret) (.seq (.reg [oo 47 (.bin .eql 3 0 (.t 24) (.n 7) 3),
 oo 46 (.asg (.t 47))]) (.cond (.t 46) (.seq (.reg [om 48 2,
 om 49 3,
 oo 50 (.mm true [3,3] [(.t 48),(.t 49)]),
 oo 10 (.asg (.t 50))]) .ret) (.seq (.reg [oo 52 (.bin .eql 3 0 (.t 24) (.n 8) 3),
 oo 51 (.asg (.t 52))]) (.cond (.t 51) (.seq (.reg [om 53 2,
 oo 54 (.mm true [3,3] [(.t 53),(.n 0)]),
 oo 10 (.asg (.t 54))]) .ret) (.seq (.reg [oo 56 (.bin .eql 3 0 (.t 24) (.n 9) 3),
 oo 55 (.asg (.t 56))]) (.cond (.t 55) (.seq (.draw [om 57 4,
 oo 58 (.iaddr 22 1 (.t 57) (.n 0)),
 oo 59 (.load 3 none (.t 58)),
 om 60 2,
 om 61 4,
 oo 62 (.iaddr 22 1 (.t 61) (.n 1)),
 oo 63 (.load 3 none (.t 62)),
 oo 64 (.mm false [3,3] [(.t 60),(.t 63)]),
 oo 65 (.mm true [3,3] [(.t 59),(.t 64)]),
 oo 10 (.asg (.t 65))] [[],[0],[1],[],[],[4],[5],[3,6],[2,7],[8,0,1,2,3,4,5,6,7,8]]) .ret) (.seq (.reg [oo 67 (.bin .eql 3 0 (.t 24) (.n 10) 3),
 oo 66 (.asg (.t 67))]) (.cond (.t 66) (.seq (.draw [om 68 2,
 om 69 4,
 oo 70 (.iaddr 22 1 (.t 69) (.n 0)),
 oo 71 (.load 3 none (.t 70)),
 om 72 4,
 oo 73 (.iaddr 22 1 (.t 72) (.n 1)),
 oo 74 (.load 3 none (.t 73)),
 om 75 4,
 oo 76 (.iaddr 22 1 (.t 75) (.n 2)),
 oo 77 (.load 3 none (.t 76)),
 oc 78 73 [(false,(.t 68)),(false,(.t 71)),(false,(.t 74)),(false,(.t 77))] [3,3,3,3],
 oo 10 (.asg (.t 78))] [[],[],[1],[2],[],[4],[5],[],[7],[8],[0,3,6,9],[10,10,0,1,2,3,4,5,6,7,8,9,10]]) .ret) (.seq (.reg [oo 80 (.bin .eql 3 0 (.t 24) (.n 11) 3),
 oo 79 (.asg (.t 80))]) (.cond (.t 79) (.seq (.reg [om 81 2,
 om 82 4,
 oo 83 (.iaddr 22 1 (.t 82) (.n 0)),
 oo 84 (.load 3 none (.t 83)),
 oo 85 (.bin .sub 3 0 (.t 81) (.t 84) 3),
 oo 10 (.asg (.t 85))]) .ret) .skip)))))))))))))))))) (.seq (.reg [oo 10 (.asg (.n 0))]) .ret))))
abbrev b8f:Nat:=53
theorem b3w:fnC pg 53 86 [(.tmp 10)] a2f:=a0w Go.Proofs.Tryz.f53 [(.tmp 10)] (by kernel_rfl)
@[go_sem] theorem c8y:fnB pg 53=true:=by kernel_rfl
def a9i:IC:=(.seq (.reg [oo 4 (.asg (.n 0))]) (.seq (.seq (.reg [om 5 1]) (.cond (.t 5) (.seq (.reg [om 6 0,
 oc 7 67 [(false,(.t 6))] [3],
 oo 4 (.asg (.t 7))]) .ret) .skip)) (.seq (.reg [om 8 0,
 oc 9 75 [(false,(.t 8))] [3],
 oo 4 (.asg (.t 9))]) .ret)))
abbrev c0q:Nat:=72
theorem b5c:fnC pg 72 10 [(.tmp 4)] a9i:=a0w Go.Proofs.Tryz.f72 [(.tmp 4)] (by kernel_rfl)
@[go_sem] theorem c92:fnB pg 72=true:=by kernel_rfl
def c89 (n:Int):Int:=IntKind.i64.wrap (IntKind.i32.wrap (IntKind.u32.wrap (IntKind.u64.wrap n)))
def c4q (n:Int) (w:Bool):Int:=if w=true then c89 n else max (min n 127) (-128)
def c28 (op:Int):Bool:=decide (4<=op/\op<=9)||decide (op=11)
def c5o (op:Int) (w:Bool) (x y:Int) (args:List Int):Int:=
 if op=4 then c4q (x+y) w
 else if op=5 then c4q (x - y) w
 else if op=6 then c4q (x*y) w
 else if op=7 then max x y
 else if op=8 then max x 0
 else if op=9 then max args[0]! (min x args[1]!)
 else x - args[0]!
def tOk (t:Tn):Bool:=(a5s t.shape t.wide t.data).isNil
def tnD (t:Tn):Ds:=⟨t.shape,t.wide⟩
def b0g (ins:List Tn) (k i:Nat):Int:=if k < ins.length then (ins[k]!).data[i]! else 0
def c2z (op:Int) (args:List Int) (ins:List Tn):Option Tn:=
 if ins.all tOk=true/\(opR op args (ins.map tnD)).2.isNil=true/\c28 op=true then
  some ⟨(opR op args (ins.map tnD)).1.shape,(opR op args (ins.map tnD)).1.wide,(List.range (a2w (opR op args (ins.map tnD)).1.shape).toNat).map fun i=>c5o op (ins[0]!).wide (b0g ins 0 i) (b0g ins 1 i) args⟩
 else none
def b2w (t:Tn) (d:Ds):Er:=if tOk t=true then (if tnD t=d then .nil else .s 6) else a5s t.shape t.wide t.data
def c5n (g:Gr) (inn:Tn) (ws:List Tn) (out:List Tn) (i:Int):Option Tn:=
 let n:=g.nodes[i.toNat]!
 if n.op=1 then some inn
 else if n.op=3 then some ws[(n.args[0]!).toNat]!
 else if n.op=2 then some ⟨n.shape,n.wide,n.data⟩
 else c2z n.op n.args (n.ins.map fun k=>out[k.toNat]!)
def tn0:Tn:=⟨[],false,[]⟩
def b24:List Tn->List Ds->Er
 | t::ts,d::ds=>if (b2w t d).isNil=true then b24 ts ds else b2w t d
 | _,_=> .nil
def a7f (s:Sn) (inn:Tn) (ws:List Tn):Er:=
 if (b2w inn s.hin).isNil=true then (if ws.length=s.ws.length then b24 ws s.ws else .s 6) else b2w inn s.hin
end Go.Ideal.Tryz
end
section
namespace Go.Ideal.Tryz
attribute [local go_sem] eD
section
variable {G:GG} {bk:Nat->Nat×Nat} {Q:Exit->St->Prop} {st:St}
theorem f8z (n:Int):ACalls pg G c0t [li n] (li (c89 n)):=by
 refine b5h rfl ?_
 simp (disch:=omega) [go_sem,b40,c89]
theorem d4k (n:Int) (w:Bool):ACalls pg G c0q [li n,lb w] (li (c4q n w)):=by
 refine b5c rfl ?_
 cases w
 ·simp (disch:=omega) [go_sem,a9i]
  refine a0e (b39 n) rfl rfl ?_
  simp (disch:=omega) [go_sem,c4q]
 ·simp (disch:=omega) [go_sem,a9i]
  refine a0e (f8z n) rfl rfl ?_
  simp (disch:=omega) [go_sem,c4q]
theorem b14 {op:Int} (h:c28 op=true):op=4\/op=5\/op=6\/op=7\/op=8\/op=9\/op=11:=by
 simp only [c28,Bool.or_eq_true,decide_eq_true_eq] at h
 omega
def b1i (op:Int):Nat:=if op=9 then 2 else if op=11 then 1 else 0
theorem d20 (op:Int) (w:Bool) (x y:Int) (args:List Int) (ho:c28 op=true) (ha:args.length=b1i op) (hx: -2147483648<=x/\x<=2147483647) (hy: -2147483648<=y/\y<=2147483647) (har:∀ a∈args,-2147483648<=a/\a<=2147483647) :
  ACalls pg G b8f [li op,lb w,li x,li y,slI args] (li (c5o op w x y args)):=by
 have hxy: -4611686018427387904<=x*y/\x*y<=4611686018427387904:=by
  have h1:x.natAbs<=2147483648:=by omega
  have h2:y.natAbs<=2147483648:=by omega
  have h3:(x*y).natAbs<=2147483648*2147483648:=by rw [Int.natAbs_mul]; exact Nat.mul_le_mul h1 h2
  omega
 refine b3w rfl ?_
 have hc:=a3y (G:=G) op (by rcases b14 ho with rfl | rfl | rfl | rfl | rfl | rfl | rfl<;>omega)
 rcases b14 ho with rfl | rfl | rfl | rfl | rfl | rfl | rfl
 ·simp only [b1i] at ha
  simp (disch:=omega) [go_sem,a2f]
  refine a0e hc rfl rfl ?_
  simp (disch:=omega) [go_sem,a1r,a2b]
  refine a0e (d4k (x+y) w) rfl rfl ?_
  simp (disch:=omega) [go_sem,c5o]
 ·simp only [b1i] at ha
  simp (disch:=omega) [go_sem,a2f]
  refine a0e hc rfl rfl ?_
  simp (disch:=omega) [go_sem,a1r,a2b]
  refine a0e (d4k (x - y) w) rfl rfl ?_
  simp (disch:=omega) [go_sem,c5o]
 ·simp only [b1i] at ha
  simp (disch:=omega) [go_sem,a2f]
  refine a0e hc rfl rfl ?_
  simp (disch:=omega) [go_sem,a1r,a2b]
  refine a0e (d4k (x*y) w) rfl rfl ?_
  simp (disch:=omega) [go_sem,c5o]
 ·simp only [b1i] at ha
  simp (disch:=omega) [go_sem,a2f]
  refine a0e hc rfl rfl ?_
  simp (disch:=omega) [go_sem,a1r,a2b,c5o]
  (repeat' split)<;>omega
 ·simp only [b1i] at ha
  simp (disch:=omega) [go_sem,a2f]
  refine a0e hc rfl rfl ?_
  simp (disch:=omega) [go_sem,a1r,a2b,c5o]
  (repeat' split)<;>omega
 ·simp only [b1i] at ha
  obtain ⟨a,b,rfl⟩:∃ a b,args=[a,b]:=by
   match args,ha with
   | [a,b],_=>exact ⟨a,b,rfl⟩
  simp (disch:=omega) [go_sem,a2f]
  refine a0e hc rfl rfl ?_
  simp (disch:=omega) [go_sem,a1r,a2b]
  refine a0b ?_
  simp (disch:=omega) [go_sem]
  refine a0d (by decide) fun s2 hs2 hep=> ?_
  simp (disch:=omega) [go_sem,hs2,c5o]
  (repeat' split)<;>omega
 ·simp only [b1i] at ha
  obtain ⟨a,rfl⟩:∃ a,args=[a]:=by
   match args,ha with
   | [a],_=>exact ⟨a,rfl⟩
  have:=har a (by simp)
  simp (disch:=omega) [go_sem,a2f]
  refine a0e hc rfl rfl ?_
  simp (disch:=omega) [go_sem,a1r,a2b,c5o]
def fnT (t:Tn):AV:= .fn b1z [] [.ip (eT t) 0]
theorem d5b (t:Tn) (i:Nat) (h:i < t.data.length):ACallsX pg G b1z [li i,.ip (eT t) 0] (li t.data[i]) []:=by
 refine b2y (pins:=[]) (by kernel_rfl) rfl rfl rfl rfl ?_
 simp (disch:=omega) [go_sem,b2d,eT,h]
theorem d1h {ts:List Tn} (hl:ts.length < 2 ^ 36) (h:st.s 2= .own 1 0 []/\st.s 3= .own 1 0 []/\st.s 6=slT ts/\st.s 7=li ts.length/\st.s 8=li 0)
  (hex:∀ s:St,s.s 2= .own 1 0 []/\s.s 3= .own 1 ts.length (ts.map fnT)->Q (.exit 0) s):AW pg G 18 (.loop a64) Q st:=by
 refine a1c Nat (fun j st=>j<=ts.length/\st.s 2= .own 1 0 []/\st.s 3= .own 1 j ((ts.take j).map fnT)/\st.s 6=slT ts/\st.s 7=li ts.length/\st.s 8=li j) (fun j=>ts.length - j) 0 ⟨by omega,by simpa using h⟩ ?_
 clear h
 rintro j st K ⟨hj,h⟩ hK
 by_cases c:j < ts.length
 ·have e2:(ts.take (j+1)).map fnT=(ts.take j).map fnT++[fnT ts[j]]:=by
   rw [List.take_succ_eq_append_getElem c,List.map_append]; rfl
  have ht:((ts.take j).map fnT).take j=(ts.take j).map fnT:=List.take_of_length_le (by simp; omega)
  generalize hv:(ts.take j).map fnT=v at *
  simp (disch:=omega) [go_sem,a64,h,c,ht]
  refine hK (j+1) _ ⟨by omega,?_⟩ (by omega)
  rw [e2]
  simp (disch:=omega) [go_sem,h,ht,fnT,eT]
 ·have:j=ts.length:=by omega
  subst this
  rw [List.take_length] at h
  generalize hv:ts.map fnT=v at *
  simp (disch:=omega) [go_sem,a64,h]
  exact hex _ (by simp (disch:=omega) [go_sem,h])
theorem d5c (ts:List Tn) (hl:ts.length < 2 ^ 36):ACalls pg G c35 [slT ts] (.own 1 ts.length (ts.map fnT)):=by
 refine b7q rfl ?_
 simp (disch:=omega) [go_sem,b6a]
 refine d1h (ts:=ts) hl (by simp (disch:=omega) [go_sem]) (fun s h=> ?_)
 have ht:(ts.map fnT).take ts.length=ts.map fnT:=List.take_of_length_le (by simp)
 generalize hv:ts.map fnT=v at *
 simp (disch:=omega) [go_sem,h,ht]
@[go_sem] theorem e5m {rd:List Nat} {n:Nat} {ks:List AV}:a2g rd (.ip ks n)=true:=by simp only [a2g]
def c68 (x:Int):Prop:= -2147483648<=x/\x<=2147483647
theorem at1 (op:Int) (args:List Int) (i:Nat) (d d0:Ds) (t0:Tn) (ho:op=8\/op=9\/op=11) (ha:args.length=b1i op) (hi:i < t0.data.length) (hx:∀ x∈t0.data,c68 x) (har:∀ a∈args,-2147483648<=a/\a<=2147483647) :
  ACalls pg G b6o [li op,slI args,li i,.agg (eD d),.sl 1 (eD d0),.sl 1 [fnT t0]] (li (c5o op d0.wide t0.data[i] 0 args)):=by
 have hxi:=hx _ (List.getElem_mem hi)
 have hv:=d20 (G:=G) op d0.wide t0.data[i] 0 args (by rcases ho with rfl | rfl | rfl<;>rfl) ha hxi (by omega) har
 have hr:=d5b (G:=G) t0 i hi
 refine b58 rfl ?_
 rcases ho with rfl | rfl | rfl
 all_goals
  simp (disch:=omega) [go_sem,c2c,fnT]
  refine a0b ?_
  simp (disch:=omega) [go_sem]
  refine e0z (fs:=[]) (cs:=[.ip (eT t0) 0]) (L:=[]) [136,137] hr rfl (by simp (disch:=omega) [go_sem]) ?_
  simp (disch:=omega) [go_sem]
  refine a0y hv rfl rfl (by simp) [141] (by simp) (by simp (disch:=omega) [go_sem]) ?_
  simp (disch:=omega) [go_sem]
  refine a0d (by decide) fun s2 hs2 hep=> ?_
  simp (disch:=omega) [go_sem,hs2]
theorem at2 (op:Int) (args:List Int) (i:Nat) (d d0 d1:Ds) (t0 t1:Tn) (ho:op=4\/op=5\/op=6\/op=7) (ha:args.length=b1i op) (hi:i < t0.data.length) (hi2:i < t1.data.length) (hx:∀ x∈t0.data,c68 x) (hy:∀ x∈t1.data,c68 x) (har:∀ a∈args,-2147483648<=a/\a<=2147483647) :
  ACalls pg G b6o [li op,slI args,li i,.agg (eD d),.sl 2 (eD d0++eD d1),.sl 2 [fnT t0,fnT t1]] (li (c5o op d0.wide t0.data[i] t1.data[i] args)):=by
 have hxi:=hx _ (List.getElem_mem hi)
 have hyi:=hy _ (List.getElem_mem hi2)
 have hv:=d20 (G:=G) op d0.wide t0.data[i] t1.data[i] args (by rcases ho with rfl | rfl | rfl | rfl<;>rfl) ha hxi hyi har
 have hr:=d5b (G:=G) t0 i hi
 have hr2:=d5b (G:=G) t1 i hi2
 refine b58 rfl ?_
 rcases ho with rfl | rfl | rfl | rfl
 all_goals
  simp (disch:=omega) [go_sem,c2c,fnT]
  refine c9r hr2 rfl rfl rfl rfl ?_
  simp (disch:=omega) [go_sem]
  refine a0b ?_
  simp (disch:=omega) [go_sem]
  refine e0z (fs:=[]) (cs:=[.ip (eT t0) 0]) (L:=[]) [136,137] hr rfl (by simp (disch:=omega) [go_sem]) ?_
  simp (disch:=omega) [go_sem]
  refine a0y hv rfl rfl (by simp) [141] (by simp) (by simp (disch:=omega) [go_sem]) ?_
  simp (disch:=omega) [go_sem]
  refine a0d (by decide) fun s2 hs2 hep=> ?_
  simp (disch:=omega) [go_sem,hs2]
structure Tn.sh (t:Tn):Prop where
 shape:t.shape.length < 2 ^ 36
 data:t.data.length < 2 ^ 36
theorem b92 (hS:SentO G bk) {op:Int} {args:List Int} {ts:List Tn} (hl:ts.length < 2 ^ 36) (hts:∀ t∈ts,t.sh) (hok:ts.all tOk=true)
  (h:st.s 0=li op/\st.s 1=slI args/\st.s 6= .var [.own 1 0 [],lb false]/\st.s 9= .own 2 0 []/\st.s 15=slT ts/\st.s 16=li ts.length/\st.s 17=li 0)
  (hex:∀ s:St,s.s 0=li op/\s.s 1=slI args/\s.s 6= .var [.own 1 0 [],lb false]/\s.s 9= .own 2 ts.length (fm eD (ts.map tnD))->Q (.exit 0) s):AW pg G 43 (.loop a5z) Q st:=by
 refine a1c Nat (fun j st=>j<=ts.length/\st.s 0=li op/\st.s 1=slI args/\st.s 6= .var [.own 1 0 [],lb false]/\st.s 9= .own 2 j (fm eD ((ts.take j).map tnD))/\st.s 15=slT ts/\st.s 16=li ts.length/\st.s 17=li j) (fun j=>ts.length - j) 0 ⟨by omega,by simpa [a7w] using h⟩ ?_
 clear h
 rintro j st K ⟨hj,h⟩ hK
 by_cases c:j < ts.length
 ·have hsh:=hts _ (List.getElem_mem c)
  have h1:=hsh.shape
  have h2:=hsh.data
  have hv:a5s ts[j].shape ts[j].wide ts[j].data= .nil:=b0h.1 (List.all_eq_true.1 hok _ (List.getElem_mem c))
  have spec:=b43 (G:=G) hS.three ts[j].shape ts[j].wide ts[j].data (by omega) (by omega)
  rw [hv] at spec
  have e2:(ts.take (j+1)).map tnD=(ts.take j).map tnD++[tnD ts[j]]:=by
   rw [List.take_succ_eq_append_getElem c,List.map_append]; rfl
  have ht:(fm eD ((ts.take j).map tnD)).take (j*2)=fm eD ((ts.take j).map tnD):=a3j (fun _=>rfl) (by simp; omega)
  generalize hvv:fm eD ((ts.take j).map tnD)=v at *
  simp (disch:=omega) [go_sem,a5z,h,c]
  refine a0e spec (a0o _) rfl ?_
  simp (disch:=omega) [go_sem,h,c,a0t,ht]
  refine hK (j+1) _ ⟨by omega,?_⟩ (by omega)
  rw [e2,a7v,a82,hvv]
  simp (disch:=omega) [go_sem,h,ht,tnD]
 ·have:j=ts.length:=by omega
  subst this
  rw [List.take_length] at h
  simp (disch:=omega) [go_sem,a5z,h]
  exact hex _ (by simp (disch:=omega) [go_sem,h])
theorem d1j (hS:SentO G bk) (op:Int) (args:List Int) (ts:List Tn) (hl:ts.length < 2 ^ 36) (hts:∀ t∈ts,t.sh) (ha:args.length < 2 ^ 36) (hok:ts.all tOk=true) (hr:(opR op args (ts.map tnD)).2.isNil=true) :
  ACalls pg G c0s [li op,slI args,slT ts] (.tup [.agg (eD (opR op args (ts.map tnD)).1),slD (ts.map tnD),.lit .nilIface]):=by
 have spec:=e40 hS op args (ts.map tnD) (by
  intro d hd
  obtain ⟨t,ht,rfl⟩:=List.mem_map.1 hd
  have:=(hts t ht).shape
  simp only [tnD]; omega) (by simp; omega) (by omega)
 generalize hrr:opR op args (ts.map tnD)=r at *
 obtain ⟨d,e⟩:=r
 simp only at hr
 obtain rfl:e= .nil:=b0h.1 hr
 have hml:(ts.map tnD).length=ts.length:=by simp
 have ht:(fm eD (ts.map tnD)).take (ts.length*2)=fm eD (ts.map tnD):=a3j (fun _=>rfl) (by simp)
 simp only [slD,hml] at spec
 by_cases hni:a0x (b25 bk (d,.nil))=true
 ·refine ACalls.shown (res:= .tup [.agg (eD d),.own 2 ts.length (fm eD (ts.map tnD)),.lit .nilIface]) ?_ (by simp (disch:=omega) [go_sem,hml])
  refine a85 rfl ?_
  simp (disch:=omega) [go_sem,a9s]
  refine b92 hS (op:=op) (args:=args) (ts:=ts) hl hts hok (by simp (disch:=omega) [go_sem]) (fun s h=> ?_)
  simp (disch:=omega) [go_sem,h,ht]
  refine a0e spec (a2t _) hni ?_
  simp (disch:=omega) [go_sem,h,ht,a0t,b25]
 ·refine a85 rfl ?_
  simp (disch:=omega) [go_sem,a9s]
  refine b92 hS (op:=op) (args:=args) (ts:=ts) hl hts hok (by simp (disch:=omega) [go_sem]) (fun s h=> ?_)
  simp (disch:=omega) [go_sem,h,ht]
  refine c59 spec (a2t _) (by simpa using hni) ?_
  simp (disch:=omega) [go_sem,h,ht,a0t,b25]
theorem d4d {ts:List Tn}:a1k (ts.map fnT)=ts.map fnT:=by
 rw [b7b,List.map_map]
 rfl
theorem c9i {op:Int} {args:List Int} {d:Ds} {dn0 k N:Nat} {dv fv:List AV} {v:Nat->Int} (hN:N < 2 ^ 36) (hz:a1k fv=fv) (hlv:fv.length=k)
  (hat:∀ i,i < N->ACalls pg G b6o [li op,slI args,li i,.agg [slI d.shape,lb d.wide],.sl dn0 dv,.sl k fv] (li (v i)))
  (h:st.s 0=li op/\st.s 1=slI args/\st.s 6= .var [.own 1 0 [],lb false,.own 1 0 []]/\st.s 7= .lit .nilIface/\st.s 8= .var [slI d.shape,lb d.wide]/\st.s 9= .sl dn0 dv/\st.s 12= .own 1 k fv/\st.s 32=li N/\st.s 11= .var [slI d.shape,lb d.wide,.own 1 0 []]/\st.s 33=li 0)
  (hex:∀ s:St,s.s 6= .var [.own 1 0 [],lb false,.own 1 0 []]/\s.s 7= .lit .nilIface/\s.s 11= .var [slI d.shape,lb d.wide,owI ((List.range N).map v)]->Q (.exit 0) s):AW pg G 50 (.loop a63) Q st:=by
 refine a1c Nat (fun j st=>j<=N/\st.s 0=li op/\st.s 1=slI args/\st.s 6= .var [.own 1 0 [],lb false,.own 1 0 []]/\st.s 7= .lit .nilIface/\st.s 8= .var [slI d.shape,lb d.wide]/\st.s 9= .sl dn0 dv/\st.s 12= .own 1 k fv/\st.s 32=li N/\st.s 11= .var [slI d.shape,lb d.wide,owI ((List.range j).map v)]/\st.s 33=li j) (fun j=>N - j) 0 ⟨by omega,by simpa [owI] using h⟩ ?_
 clear h
 rintro j st K1 ⟨hj,h⟩ hK
 have ht:fv.take k=fv:=List.take_of_length_le (by omega)
 by_cases c:j < N
 ·have spec:=hat j c
  have e2:(List.range (j+1)).map v=(List.range j).map v++[v j]:=by rw [List.range_succ,List.map_append]; rfl
  have hlo:((List.range j).map v).length=j:=by simp
  generalize (List.range j).map v=o at *
  simp (disch:=omega) [go_sem,a63,h,c]
  refine c20 [(11,st.ep 11)] (by simp) (by simp (disch:=omega) [go_sem,h]) ?_
  simp (disch:=omega) [go_sem,h,hz,ht]
  refine a0y spec rfl rfl (by simp) [44] (by simp) (by simp (disch:=omega) [go_sem,h]) ?_
  simp (disch:=omega) [go_sem,h]
  refine a0d (by decide) fun s2 hs2 hep=> ?_
  simp (disch:=omega) [go_sem,hs2,hep,h]
  refine hK (j+1) _ ⟨by omega,?_⟩ (by omega)
  rw [e2]
  simp (disch:=omega) [go_sem,hs2,hep,h,hlo]
 ·have:j=N:=by omega
  subst this
  simp (disch:=omega) [go_sem,a63,h]
  exact hex _ (by simp (disch:=omega) [go_sem,h])
theorem c03 {t:Tn} (h:tOk t=true):(t.data.length:Int)=a2w t.shape/\∀ x∈t.data,c68 x:=by
 have h1:a5s t.shape t.wide t.data= .nil:=b0h.1 h
 unfold a5s at h1
 split at h1
 ·split at h1
  ·rename_i hs hl
   refine ⟨hl,fun x hx=> ?_⟩
   have key:∀ (l:List Int) (k:Nat),c3p (a20 t.wide l k)= .nil->∀ x∈l,b68 x t.wide=true:=by
    intro l
    induction l with
    | nil=>intro k _ x hx; cases hx
    | cons y l ih=>
     intro k h x hx
     rw [a20] at h
     split at h
     ·rename_i hy
      rcases List.mem_cons.1 hx with rfl | hx
      ·exact hy
      ·exact ih _ h x hx
     ·cases h
   have:=key _ _ h1 x hx
   unfold b68 at this
   unfold c68
   split at this<;>simp only [decide_eq_true_eq] at this<;>omega
  ·cases h1
 ·rename_i hs
  exact absurd (a8m.1 h1) hs
theorem d24 (hS:SentO G bk) (op:Int) (args:List Int) (ts:List Tn) (t:Tn) (hts:∀ t∈ts,t.sh) (hap:c2z op args ts=some t) (ha:args.length=b1i op) (har:∀ a∈args,-2147483648<=a/\a<=2147483647)
  (hn:(ts.length=1/\(op=8\/op=9\/op=11))\/(ts.length=2/\(op=4\/op=5\/op=6\/op=7))) (hel:∀ x∈ts,a2w (opR op args (ts.map tnD)).1.shape<=a2w x.shape):ACalls pg G c33 [li op,slI args,slT ts] (.tup [.agg (eT t),.lit .nilIface]):=by
 unfold c2z at hap
 split at hap
 ·rename_i hc
  obtain ⟨hok,hrn,heo⟩:=hc
  simp only [Option.some.injEq] at hap
  have hal:args.length < 2 ^ 36:=by rw [ha]; unfold b1i; split<;>(try split)<;>omega
  have k1:=d1j (G:=G) hS op args ts (by omega) hts hal hok hrn
  have k2:=d5c (G:=G) ts (by omega)
  have her:=b5u (opR op args (ts.map tnD)).1.shape
  have hsl:=c7y (op:=op) (args:=args) (ins:=ts.map tnD) (by
   intro d hd
   obtain ⟨t,ht,rfl⟩:=List.mem_map.1 hd
   have:=(hts t ht).shape
   simp only [tnD]; omega) (by omega)
  have hat:∀ i:Nat,i < (a2w (opR op args (ts.map tnD)).1.shape).toNat->ACalls pg G b6o [li op,slI args,li i,.agg (eD (opR op args (ts.map tnD)).1),slD (ts.map tnD),.sl ts.length (ts.map fnT)] (li (c5o op (ts[0]!).wide (b0g ts 0 i) (b0g ts 1 i) args)):=by
   intro i hi
   rcases hn with ⟨hn1,hop⟩ | ⟨hn1,hop⟩
   ·match ts,hn1 with
    | [t0],_=>
     obtain ⟨a1,a2⟩:=c03 (List.all_eq_true.1 hok t0 (by simp))
     have a3:=hel t0 (by simp)
     have hi0:i < t0.data.length:=by omega
     have:=at1 (G:=G) op args i (opR op args [tnD t0]).1 (tnD t0) t0 hop ha hi0 a2 har
     have e1:b0g [t0] 0 i=t0.data[i]:=by simp [b0g,hi0]
     have e2:b0g [t0] 1 i=0:=by simp [b0g]
     rw [e1,e2]
     exact this
   ·match ts,hn1 with
    | [t0,t1],_=>
     obtain ⟨a1,a2⟩:=c03 (List.all_eq_true.1 hok t0 (by simp))
     obtain ⟨b1,b2⟩:=c03 (List.all_eq_true.1 hok t1 (by simp))
     have a3:=hel t0 (by simp)
     have b3:=hel t1 (by simp)
     have hi0:i < t0.data.length:=by omega
     have hi1:i < t1.data.length:=by omega
     have:=at2 (G:=G) op args i (opR op args [tnD t0,tnD t1]).1 (tnD t0) (tnD t1) t0 t1 hop ha hi0 hi1 a2 b2 har
     have e1:b0g [t0,t1] 0 i=t0.data[i]:=by simp [b0g,hi0]
     have e2:b0g [t0,t1] 1 i=t1.data[i]:=by simp [b0g,hi1]
     rw [e1,e2]
     exact this
  generalize hd:(opR op args (ts.map tnD)).1=d at *
  have k3:=b26 (G:=G) hS.three d.shape (by omega)
  obtain ⟨N,hN⟩:∃ N:Nat,a2w d.shape=N:=⟨(a2w d.shape).toNat,by omega⟩
  rw [hN] at k3 her hap hat
  simp only [Int.toNat_natCast] at hap hat
  have hml:(ts.map tnD).length=ts.length:=by simp
  have hfl:(ts.map fnT).length=ts.length:=by simp
  have hz:=d4d (ts:=ts)
  simp only [slD,hml] at k1 hat
  refine b7n rfl ?_
  simp (disch:=omega) [go_sem,b57]
  refine a0j k1 (by simp [go_sem,noRef]) (by simp (disch:=omega) [go_sem]) ?_
  simp (disch:=omega) [go_sem]
  generalize hfv:ts.map fnT=fv at *
  refine b1d k2 rfl ?_ ?_
  all_goals
   simp (disch:=omega) [go_sem]
   refine a0e k3 rfl rfl ?_
   simp (disch:=omega) [go_sem]
   refine c9i (d:=d) (N:=N) (v:=fun i=>c5o op (ts[0]!).wide (b0g ts 0 i) (b0g ts 1 i) args) (by omega) hz hfl hat (by simp (disch:=omega) [go_sem,hfl]) (fun s h=> ?_)
   subst hap
   simp (disch:=omega) [go_sem,h,eT]
 ·cases hap
end
end Go.Ideal.Tryz
end
section
namespace Go.Ideal.Tryz
def tTo (T:Nat->Tn) (N i:Nat):List Tn:=(List.range i).map T++List.replicate (N - i) tn0
theorem d5x {T:Nat->Tn} {N i:Nat} (h:i<=N):(tTo T N i).length=N:=by simp [tTo]; omega
theorem b4w {T:Nat->Tn} {N i k:Nat} (h:k < i):(tTo T N i)[k]! =T k:=by
 unfold tTo
 have h2:k < ((List.range i).map T++List.replicate (N - i) tn0).length:=by simp; omega
 rw [b79 h2]
 rw [List.getElem_append_left (by simpa using h)]
 simp
theorem d5y {T:Nat->Tn} {N i:Nat} (h:i < N):(tTo T N i).set i (T i)=tTo T N (i+1):=by
 unfold tTo
 rw [show N - i=(N - (i+1))+1 by omega]
 have:=c0b (os:=(List.range i).map T) (k:=N - (i+1)) (x:=T i) (z:=tn0)
 rw [List.length_map,List.length_range] at this
 rw [this,List.range_succ,List.map_append]
 rfl
theorem c6x {w:Bool}:∀ {l:List Int} {k:Nat},(∀ x∈l,b68 x w=true)->a20 w l k=none
 | [],_,_=>rfl
 | x::l,k,h=>by
  rw [a20,if_pos (h x (by simp)),c6x fun y hy=>h y (by simp [hy])]
end Go.Ideal.Tryz
end
section
namespace Go.Ideal.Tryz
attribute [local go_sem] eD
section
variable {G:GG} {bk:Nat->Nat×Nat} {Q:Exit->St->Prop} {st:St}
theorem c7e (hS:SentO G bk) (t:Tn) (d:Ds) (ht:t.sh) (hd:d.shape.length < 2 ^ 40):ACalls pg G c32 [.agg (eT t),.agg (eD d)] (a0t bk (b2w t d)):=by
 have h1:=ht.shape
 have h2:=ht.data
 have h0:=hS.val 0 (by decide)
 have k1:=b43 (G:=G) hS.three t.shape t.wide t.data (by omega) (by omega)
 have k2:=a40 (G:=G) (tnD t) d (by simp only [tnD]; omega) (by omega)
 have k2':ACalls pg G b10 [.agg [slI t.shape,lb t.wide],.agg [slI d.shape,lb d.wide]] (lb (decide (tnD t=d))):=k2
 refine b64 rfl ?_
 simp (disch:=omega) [go_sem,b5s,eT]
 refine a0j k1 (a0o _) (by simp (disch:=omega) [go_sem]) ?_
 unfold b2w tOk
 generalize a5s t.shape t.wide t.data=e at *
 cases he:e.isNil with
 | false=>simp (disch:=omega) [go_sem,he]
 | true=>
  obtain rfl:e= .nil:=b0h.1 he
  simp (disch:=omega) [go_sem,he,a0t]
  refine a0e k2' rfl rfl ?_
  by_cases hc:tnD t=d
  ·simp (disch:=omega) [go_sem,hc,a0t]
  ·simp (disch:=omega) [go_sem,hc,h0,a0t]
@[go_sem] theorem f2x {xs:List Ds} {i:Nat} (h:i < xs.length):((fm eD xs).drop (i*2)).take 2=[slI xs[i].shape,lb xs[i].wide]:=a81 (f:=eD) (k:=2) (fun _=>rfl) h
theorem d1z (hS:SentO G bk) {g:Gr} {s:Sn} {inn:Tn} {ws:List Tn} (hl:ws.length < 2 ^ 30) (hlw:ws.length=s.ws.length) (hws:∀ t∈ws,t.sh) (hds:∀ d∈s.ws,d.shape.length < 2 ^ 40)
  (h:st.s 2=slT ws/\st.s 3= .var [slN g.nodes,li g.out]/\st.s 4= .var (eT inn)/\st.s 6= .own 3 0 []/\st.s 7= .lit .nilIface/\st.s 8= .var (eSn s)/\st.s 43=slT ws/\st.s 44=li ws.length/\st.s 45=li 0)
  (hret:∀ e,b24 ws s.ws=e->e.isNil=false->∀ s':St,s'.s 6= .own 3 0 []/\s'.s 7=a0t bk e->Q .ret s')
  (hex:b24 ws s.ws= .nil->∀ s':St,s'.s 2=slT ws/\s'.s 3= .var [slN g.nodes,li g.out]/\s'.s 4= .var (eT inn)/\s'.s 6= .own 3 0 []/\s'.s 7= .lit .nilIface/\s'.s 8= .var (eSn s)->Q (.exit 0) s'):AW pg G 139 (.loop a8j) Q st:=by
 refine a1c Nat (fun j st=>j<=ws.length/\b24 (ws.drop j) (s.ws.drop j)=b24 ws s.ws/\st.s 2=slT ws/\st.s 3= .var [slN g.nodes,li g.out]/\st.s 4= .var (eT inn)/\st.s 6= .own 3 0 []/\st.s 7= .lit .nilIface/\st.s 8= .var (eSn s)/\st.s 43=slT ws/\st.s 44=li ws.length/\st.s 45=li j) (fun j=>ws.length - j) 0 ⟨by omega,by simp,by simpa using h⟩ ?_
 clear h
 rintro j st K1 ⟨hj,hm,h⟩ hK
 by_cases c:j < ws.length
 ·have c2:j < s.ws.length:=by omega
  have spec:=c7e (G:=G) hS ws[j] s.ws[j] (hws _ (List.getElem_mem c)) (hds _ (List.getElem_mem c2))
  rw [List.drop_eq_getElem_cons c,List.drop_eq_getElem_cons c2,b24] at hm
  simp only [eT] at spec
  generalize b2w ws[j] s.ws[j]=e at *
  simp only [eSn,eT] at h
  simp (disch:=omega) [go_sem,a8j,h,c]
  refine c20 [(12,st.ep 12+1),(8,st.ep 8)] (by simp) (by simp (disch:=omega) [go_sem,h]) ?_
  simp (disch:=omega) [go_sem,h,c,c2]
  refine a99 spec (a0o _) (by simp (disch:=omega) [go_sem,h]) (by simp) [56] (by simp) (by simp (disch:=omega) [go_sem,h]) ?_
  simp (disch:=omega) [go_sem,h]
  refine a0d (by decide) fun s2 hs2 hep=> ?_
  cases he:e.isNil with
  | false=>
   rw [if_neg (by simp [he])] at hm
   simp (disch:=omega) [go_sem,hs2,hep,h,he]
   exact hret e hm.symm he _ (by simp (disch:=omega) [go_sem,hs2,hep,h])
  | true=>
   rw [if_pos he] at hm
   simp (disch:=omega) [go_sem,hs2,hep,h,he]
   exact hK (j+1) _ ⟨by omega,hm,by simp (disch:=omega) [go_sem,hs2,hep,h,eSn,eT]⟩ (by omega)
 ·have:j=ws.length:=by omega
  subst this
  rw [List.drop_length,b24] at hm
  ·simp (disch:=omega) [go_sem,a8j,h]
   exact hex hm.symm _ (by simp (disch:=omega) [go_sem,h])
  ·intro _ _ _ _ h1; cases h1
end
@[go_sem] theorem f3c {xs:List Tn} {i:Nat} (h:i < xs.length):((fm eT xs).drop (i*3)).take 3=[slI xs[i].shape,lb xs[i].wide,slI xs[i].data]:=a81 (f:=eT) (k:=3) (fun _=>rfl) h
theorem b85 {xs:List Tn} {i:Nat} {t:Tn} (h:i < xs.length):a0h (fm eT xs) (i*3) [slI t.shape,lb t.wide,slI t.data]=fm eT (xs.set i t):=b3z (f:=eT) (c:=3) (fun _=>rfl) t h
def b52 (out:List Tn) (ks:List Int):List Tn:=ks.map fun k=>out[k.toNat]!
@[simp] theorem d0u {out:List Tn} {ks:List Int}:(b52 out ks).length=ks.length:=by simp [b52]
section
variable {G:GG} {bk:Nat->Nat×Nat} {Q:Exit->St->Prop} {st:St}
theorem d9q {g:Gr} {s:Sn} {inn:Tn} {ws out:List Tn} {n:Nd} {j0 i0:Nat} (hi:∀ k∈n.ins,0<=k/\k < (out.length:Int)) (hl:n.ins.length < 2 ^ 36)
  (h:st.s 2=slT ws/\st.s 3= .var [slN g.nodes,li g.out]/\st.s 4= .var (eT inn)/\st.s 6= .own 3 0 []/\st.s 7= .lit .nilIface/\st.s 8= .var (eSn s)/\st.s 66=slI s.ord/\st.s 67=li s.ord.length/\st.s 68=li j0/\st.s 14= .own 3 out.length (fm eT out)/\st.s 16=li i0/\st.s 17= .var (a5q n)/\st.s 18= .own 3 0 []/\st.s 80=slI n.ins/\st.s 81=li n.ins.length/\st.s 82=li 0)
  (hex:∀ s':St,(s'.s 2=slT ws/\s'.s 3= .var [slN g.nodes,li g.out]/\s'.s 4= .var (eT inn)/\s'.s 6= .own 3 0 []/\s'.s 7= .lit .nilIface/\s'.s 8= .var (eSn s)/\s'.s 66=slI s.ord/\s'.s 67=li s.ord.length/\s'.s 68=li j0/\s'.s 14= .own 3 out.length (fm eT out)/\s'.s 16=li i0/\s'.s 17= .var (a5q n)/\s'.s 18= .own 3 n.ins.length (fm eT (b52 out n.ins)))->Q (.exit 5) s'):AW pg G 139 (.loop a8k) Q st:=by
 refine a1c Nat (fun j st=>j<=n.ins.length/\st.s 2=slT ws/\st.s 3= .var [slN g.nodes,li g.out]/\st.s 4= .var (eT inn)/\st.s 6= .own 3 0 []/\st.s 7= .lit .nilIface/\st.s 8= .var (eSn s)/\st.s 66=slI s.ord/\st.s 67=li s.ord.length/\st.s 68=li j0/\st.s 14= .own 3 out.length (fm eT out)/\st.s 16=li i0/\st.s 17= .var (a5q n)/\st.s 18= .own 3 j (fm eT (b52 out (n.ins.take j)))/\st.s 80=slI n.ins/\st.s 81=li n.ins.length/\st.s 82=li j) (fun j=>n.ins.length - j) 0 ⟨by omega,by simpa [a7w,b52] using h⟩ ?_
 clear h
 rintro j st K1 ⟨hj,h⟩ hK
 by_cases c:j < n.ins.length
 ·have hk:=hi _ (List.getElem_mem c)
  obtain ⟨kk,hkk⟩:∃ kk:Nat,n.ins[j]=kk:=⟨n.ins[j].toNat,by omega⟩
  rw [hkk] at hk
  have hk2:kk < out.length:=by omega
  have e:out[((kk:Int)).toNat]! =out[kk]:=by simp [hk2]
  have e2:b52 out (n.ins.take (j+1))=b52 out (n.ins.take j)++[out[kk]]:=by
   rw [List.take_succ_eq_append_getElem c,b52,List.map_append,List.map_cons,List.map_nil,hkk,e]; rfl
  have ht:(fm eT (b52 out (n.ins.take j))).take (j*3)=fm eT (b52 out (n.ins.take j)):=a3j (fun _=>rfl) (by simp; omega)
  generalize hv:fm eT (b52 out (n.ins.take j))=v at *
  simp (disch:=omega) [go_sem,a8k,h,c,hkk,hk2,ht]
  refine hK (j+1) _ ⟨by omega,?_⟩ (by omega)
  rw [e2,a7v,a82,hv]
  simp (disch:=omega) [go_sem,h,ht,eT]
 ·have:j=n.ins.length:=by omega
  subst this
  rw [List.take_length] at h
  simp (disch:=omega) [go_sem,a8k,h]
  exact hex _ (by simp (disch:=omega) [go_sem,h])
structure Fwd (g:Gr) (ws:List Tn) (T:Nat->Tn) (N:Nat):Prop where
 len:g.nodes.length=N
 sh:∀ n∈g.nodes,n.sh
 tsh:∀ i,i < N->(T i).sh
 wt:∀ j,j < N->g.nodes[j]!.op=3->∃ (k:Nat) (r:List Int),g.nodes[j]!.args=(k:Int)::r/\k < ws.length
 op:∀ j,j < N->g.nodes[j]!.op≠1->g.nodes[j]!.op≠2->g.nodes[j]!.op≠3->g.nodes[j]!.args.length=b1i g.nodes[j]!.op/\(∀ a∈g.nodes[j]!.args,-2147483648<=a/\a<=2147483647)/\(∀ k∈g.nodes[j]!.ins,0<=k/\k < (j:Int))/\
  ((g.nodes[j]!.ins.length=1/\(g.nodes[j]!.op=8\/g.nodes[j]!.op=9\/g.nodes[j]!.op=11))\/(g.nodes[j]!.ins.length=2/\(g.nodes[j]!.op=4\/g.nodes[j]!.op=5\/g.nodes[j]!.op=6\/g.nodes[j]!.op=7)))/\
  ∀ x∈b52 (tTo T N j) g.nodes[j]!.ins,a2w (opR g.nodes[j]!.op g.nodes[j]!.args ((b52 (tTo T N j) g.nodes[j]!.ins).map tnD)).1.shape<=a2w x.shape
theorem d9r (hS:SentO G bk) {g:Gr} {s:Sn} {inn:Tn} {ws:List Tn} {T:Nat->Tn} {N:Nat} (hN:N<=64) (hF:Fwd g ws T N) (hord:s.ord=b07 N) (hinn:inn.sh) (hws:∀ t∈ws,t.sh)
  (hT:∀ i:Nat,i < N->c5n g inn ws (tTo T N i) (i:Int)=some (T i))
  (h:st.s 2=slT ws/\st.s 3= .var [slN g.nodes,li g.out]/\st.s 4= .var (eT inn)/\st.s 6= .own 3 0 []/\st.s 7= .lit .nilIface/\st.s 8= .var (eSn s)/\st.s 14= .own 3 N (fm eT (List.replicate N tn0))/\st.s 66=slI s.ord/\st.s 67=li s.ord.length/\st.s 68=li 0)
  (hex:∀ s':St,s'.s 6= .own 3 0 []/\s'.s 7= .lit .nilIface/\s'.s 14= .own 3 N (fm eT ((List.range N).map T))->Q (.exit 2) s'):AW pg G 139 (.loop a4e) Q st:=by
 have hol:s.ord.length=N:=by rw [hord,b3f]
 refine a1c Nat (fun j st=>j<=N/\st.s 2=slT ws/\st.s 3= .var [slN g.nodes,li g.out]/\st.s 4= .var (eT inn)/\st.s 6= .own 3 0 []/\st.s 7= .lit .nilIface/\st.s 8= .var (eSn s)/\st.s 14= .own 3 N (fm eT (tTo T N j))/\st.s 66=slI s.ord/\st.s 67=li s.ord.length/\st.s 68=li j) (fun j=>N - j) 0 ⟨by omega,by simpa [tTo] using h⟩ ?_
 clear h
 rintro j st K1 ⟨hj,h⟩ hK
 by_cases c:j < N
 ·have c0:j < s.ord.length:=by omega
  have hi:s.ord[j]=(j:Int):=by simp only [hord,c3x]
  have c1:j < g.nodes.length:=by rw [hF.len]; exact c
  have hol2:(tTo T N j).length=N:=d5x hj
  have c2:j < (tTo T N j).length:=by omega
  have hset:=d5y (T:=T) c
  have hstep:=hT j c
  have hop:=hF.op j c
  have hwt:=hF.wt j c
  have hn:=hF.sh _ (List.getElem_mem c1)
  have hn3:=hn.shape
  have hn4:=hn.data
  have htsh:=hF.tsh j c
  unfold c5n at hstep
  rw [Int.toNat_natCast] at hstep
  rw [b79 c1] at hstep hop hwt
  simp only [eT,eSn] at h
  by_cases o1:g.nodes[j].op=1
  ·simp only [o1,if_true,Option.some.injEq] at hstep
   have k1:=(b6y (G:=G) inn.shape inn.wide inn.data (by have:=hinn.shape; omega) (by have:=hinn.data; omega)).shown (res':= .agg [slI inn.shape,lb inn.wide,slI inn.data]) (by simp (disch:=omega) [go_sem])
   generalize hout:tTo T N j=out at *
   simp (disch:=omega) [go_sem,a4e,h,c0,hi,c1,o1]
   refine a0j k1 (by simp (disch:=omega) [go_sem]) (by simp (disch:=omega) [go_sem,h]) ?_
   rw [<-hol2]
   simp (disch:=omega) [go_sem,h,c0,hi,c1,c2]
   refine hK (j+1) _ ⟨by omega,?_⟩ (by omega)
   rw [<-hset,<-hstep]
   simp (disch:=omega) [go_sem,h,eT,eSn,hol2,b85,c2]
  by_cases o3:g.nodes[j].op=3
  ·obtain ⟨k,r,hargs,hkw⟩:=hwt o3
   have h0:(g.nodes[j].args[0]!).toNat=k:=by rw [hargs]; rfl
   rw [if_neg o1,if_pos o3,h0,b79 hkw] at hstep
   simp only [Option.some.injEq] at hstep
   have hwsh:=hws _ (List.getElem_mem hkw)
   have k1:=(b6y (G:=G) ws[k].shape ws[k].wide ws[k].data (by have:=hwsh.shape; omega) (by have:=hwsh.data; omega)).shown (res':= .agg [slI ws[k].shape,lb ws[k].wide,slI ws[k].data]) (by simp (disch:=omega) [go_sem])
   generalize hout:tTo T N j=out at *
   rw [hargs] at h0
   simp (disch:=omega) [go_sem,a4e,h,c0,hi,c1,o3,hargs,hkw]
   refine a0j k1 (by simp (disch:=omega) [go_sem]) (by simp (disch:=omega) [go_sem,h]) ?_
   rw [<-hol2]
   simp (disch:=omega) [go_sem,h,c0,hi,c1,c2]
   refine hK (j+1) _ ⟨by omega,?_⟩ (by omega)
   rw [<-hset,<-hstep]
   simp (disch:=omega) [go_sem,h,eT,eSn,hol2,b85,c2]
  by_cases o2:g.nodes[j].op=2
  ·rw [if_neg o1,if_neg o3,if_pos o2] at hstep
   simp only [Option.some.injEq] at hstep
   have k1:=(b6y (G:=G) g.nodes[j].shape g.nodes[j].wide g.nodes[j].data (by omega) (by omega)).shown (res':= .agg [slI g.nodes[j].shape,lb g.nodes[j].wide,slI g.nodes[j].data]) (by simp (disch:=omega) [go_sem])
   generalize hout:tTo T N j=out at *
   simp (disch:=omega) [go_sem,a4e,h,c0,hi,c1,o2]
   refine a0j k1 (by simp (disch:=omega) [go_sem]) (by simp (disch:=omega) [go_sem,h]) ?_
   rw [<-hol2]
   simp (disch:=omega) [go_sem,h,c0,hi,c1,c2]
   refine hK (j+1) _ ⟨by omega,?_⟩ (by omega)
   rw [<-hset,<-hstep]
   simp (disch:=omega) [go_sem,h,eT,eSn,hol2,b85,c2]
   exact b85 (t:=⟨g.nodes[j].shape,g.nodes[j].wide,g.nodes[j].data⟩) c2
  ·rw [if_neg o1,if_neg o3,if_neg o2] at hstep
   obtain ⟨p1,p2,p3,p4,p5⟩:=hop o1 o2 o3
   have hsl:∀ x∈b52 (tTo T N j) g.nodes[j].ins,x.sh:=by
    intro x hx
    simp only [b52,List.mem_map] at hx
    obtain ⟨k,hk,rfl⟩:=hx
    have:=p3 k hk
    rw [b4w (by omega)]
    exact hF.tsh _ (by omega)
   have hil:(b52 (tTo T N j) g.nodes[j].ins).length=g.nodes[j].ins.length:=d0u
   have spec:=d24 (G:=G) hS g.nodes[j].op g.nodes[j].args (b52 (tTo T N j) g.nodes[j].ins) (T j) hsl hstep p1 p2 (by rw [hil]; exact p4) p5
   have hin2:∀ k∈g.nodes[j].ins,0<=k/\k < ((tTo T N j).length:Int):=fun k hk=>by have:=p3 k hk; omega
   generalize hout:tTo T N j=out at *
   simp only [slT,hil,eT] at spec
   simp (disch:=omega) [go_sem,a4e,h,c0,hi,c1,o1,o2,o3]
   refine d9q (g:=g) (s:=s) (inn:=inn) (ws:=ws) (out:=out) (n:=g.nodes[j]) (j0:=j) (i0:=j) hin2 (hn.ins) (by simp (disch:=omega) [go_sem,h,a5q,eT,eSn,hol2,hol,a7w]) (fun s1 h1=> ?_)
   have ht:(fm eT (b52 out g.nodes[j].ins)).take (g.nodes[j].ins.length*3)=fm eT (b52 out g.nodes[j].ins):=a3j (fun _=>rfl) (by simp)
   simp only [eT,eSn,a5q,hol2] at h1
   simp (disch:=omega) [go_sem,h1,ht]
   refine b1d spec (by simp [go_sem,noRef]) ?_ ?_
   all_goals
    rw [<-hol2] at h1
    simp (disch:=omega) [go_sem,h1,c2]
    refine hK (j+1) _ ⟨by omega,?_⟩ (by omega)
    rw [<-hset]
    simp (disch:=omega) [go_sem,h1,eT,eSn,hol2,b85,c2]
 ·have:j=N:=by omega
  subst this
  simp (disch:=omega) [go_sem,a4e,h,hol]
  exact hex _ (by simp (disch:=omega) [go_sem,h,tTo])
end
theorem c76 {n:Nat}:a6w n [.sl 0 [],.lit (.bool false),.sl 0 []]=fm eT (List.replicate n tn0):=by
 induction n with
 | zero=>rfl
 | succ n ih=>rw [List.replicate_succ,a3z,<-ih]; simp [a6w,List.replicate_succ,eT,tn0]
section
variable {G:GG} {bk:Nat->Nat×Nat} {Q:Exit->St->Prop} {st:St}
structure Seen (g:Gr) (s:Sn):Prop where
 of:ofR g=(s,.nil)
 nd:∀ n∈g.nodes,n.sh
 tot:tot (g.nodes.map (·.ins)) < 2 ^ 40
 hin:s.hin.shape.length < 2 ^ 36
 ws:s.ws.length<=8/\∀ d∈s.ws,d.shape.length < 2 ^ 36
theorem f1v (hS:SentO G bk) (hA:Around G bk) {g:Gr} {s:Sn} {inn:Tn} {ws:List Tn} (hs:Seen g s) (hl:g.nodes.length < 2 ^ 36) (hinn:inn.sh) (hwl:ws.length < 2 ^ 30) (hws:∀ t∈ws,t.sh) {e:Er} (he:a7f s inn ws=e) (hne:e.isNil=false) :
  ACalls pg G b8e [d0r g,.agg (eT inn),slT ws] (.tup [.own 3 0 [],a0t bk e]):=by
 have h0:=hS.val 0 (by decide)
 have k1:=g1y hS hA g hs.nd hl hs.tot
 rw [hs.of] at k1
 have k2:=c7e (G:=G) hS inn s.hin hinn (by have:=hs.hin; omega)
 have hh:=hs.hin
 simp only [eT] at k2
 refine b13 rfl ?_
 simp (disch:=omega) [go_sem,b3s,eT]
 refine a0j k1 (by simp [go_sem,eSn,noRef]) (by simp (disch:=omega) [go_sem]) ?_
 simp (disch:=omega) [go_sem,a0t,eSn]
 refine a0j k2 (a0o _) (by simp (disch:=omega) [go_sem]) ?_
 unfold a7f at he
 generalize b2w inn s.hin=e1 at *
 cases h1:e1.isNil with
 | false=>
  rw [if_neg (by simp [h1])] at he
  subst he
  simp (disch:=omega) [go_sem,h1]
 | true=>
  rw [if_pos h1] at he
  by_cases hc:ws.length=s.ws.length
  ·rw [if_pos hc] at he
   simp (disch:=omega) [go_sem,h1,hc]
   refine d1z hS (g:=g) (s:=s) (inn:=inn) (ws:=ws) hwl hc hws (fun d hd=>by have:=hs.ws.2 d hd; omega) (by simp (disch:=omega) [go_sem,hc,eT,eSn]) (fun e2 hm hn2 s1 h=> ?_) (fun hm s1 h=> ?_)
   ·rw [hm] at he
    subst he
    simp (disch:=omega) [go_sem,h]
   ·rw [hm] at he
    subst he
    cases hne
  ·rw [if_neg hc] at he
   subst he
   have hc':¬ (ws.length:Int)=s.ws.length:=by omega
   simp (disch:=omega) [go_sem,h1,hc,hc']
   refine a0b ?_
   simp (disch:=omega) [go_sem,h0]
   refine a0d (by decide) fun s2 hs2 hep=> ?_
   simp (disch:=omega) [go_sem,hs2,a0t]
theorem g2t (hS:SentO G bk) (hA:Around G bk) {g:Gr} {s:Sn} {inn:Tn} {ws:List Tn} {T:Nat->Tn} {N:Nat} (hs:Seen g s) (hN:N<=64) (hF:Fwd g ws T N) (hord:s.ord=b07 N) (hinn:inn.sh) (hwl:ws.length < 2 ^ 30) (hws:∀ t∈ws,t.sh)
  (hT:∀ i:Nat,i < N->c5n g inn ws (tTo T N i) (i:Int)=some (T i)) (he:a7f s inn ws= .nil) :
  ACalls pg G b8e [d0r g,.agg (eT inn),slT ws] (.tup [.sl N (fm eT ((List.range N).map T)),.lit .nilIface]):=by
 have hlen:=hF.len
 have k1:=g1y hS hA g hs.nd (by omega) hs.tot
 rw [hs.of] at k1
 have k2:=c7e (G:=G) hS inn s.hin hinn (by have:=hs.hin; omega)
 have hh:=hs.hin
 simp only [eT] at k2
 refine ACalls.shown (res:= .tup [.own 3 N (fm eT ((List.range N).map T)),.lit .nilIface]) ?_ (by simp (disch:=omega) [go_sem])
 refine b13 rfl ?_
 simp (disch:=omega) [go_sem,b3s,eT]
 refine a0j k1 (by simp [go_sem,eSn,noRef]) (by simp (disch:=omega) [go_sem]) ?_
 simp (disch:=omega) [go_sem,a0t,eSn]
 refine a0j k2 (a0o _) (by simp (disch:=omega) [go_sem]) ?_
 unfold a7f at he
 generalize b2w inn s.hin=e1 at *
 cases h1:e1.isNil with
 | false=>
  rw [if_neg (by simp [h1])] at he
  subst he
  cases h1
 | true=>
  rw [if_pos h1] at he
  by_cases hc:ws.length=s.ws.length
  ·rw [if_pos hc] at he
   simp (disch:=omega) [go_sem,h1,hc]
   refine d1z hS (g:=g) (s:=s) (inn:=inn) (ws:=ws) hwl hc hws (fun d hd=>by have:=hs.ws.2 d hd; omega) (by simp (disch:=omega) [go_sem,hc,eT,eSn]) (fun e2 hm hn2 s1 h=> ?_) (fun hm s1 h=> ?_)
   ·rw [hm] at he
    subst he
    cases hn2
   ·simp only [eT,eSn] at h
    simp (disch:=omega) [go_sem,h,hlen,c76]
    refine d9r hS (g:=g) (s:=s) (inn:=inn) (ws:=ws) (T:=T) (N:=N) hN hF hord hinn hws hT (by simp (disch:=omega) [go_sem,h,hlen,c76,eT,eSn]) (fun s2 h2=> ?_)
    have ht:(fm eT ((List.range N).map T)).take (N*3)=fm eT ((List.range N).map T):=a3j (fun _=>rfl) (by simp)
    simp (disch:=omega) [go_sem,h2,ht]
  ·rw [if_neg hc] at he
   cases he
theorem d18 (hS:SentO G bk) (hA:Around G bk) {g:Gr} {s:Sn} {inn:Tn} {ws:List Tn} {T:Nat->Tn} {N o:Nat} (hs:Seen g s) (hN:N<=64) (hF:Fwd g ws T N) (hord:s.ord=b07 N) (hinn:inn.sh) (hwl:ws.length < 2 ^ 30) (hws:∀ t∈ws,t.sh)
  (hT:∀ i:Nat,i < N->c5n g inn ws (tTo T N i) (i:Int)=some (T i)) (he:a7f s inn ws= .nil) (ho:g.out=(o:Int)) (ho2:o < N) :
  ACalls pg G a8h [d0r g,.agg (eT inn),slT ws] (.tup [.agg (eT (T o)),.lit .nilIface]):=by
 have k1:=g2t hS hA hs hN hF hord hinn hwl hws hT he
 have hl:((List.range N).map T).length=N:=by simp
 have hg:((List.range N).map T)[o]! =T o:=by rw [b79 (by omega)]; simp
 have ho3:o < ((List.range N).map T).length:=by omega
 generalize hout:(List.range N).map T=out at *
 rw [b79 ho3] at hg
 simp only [d0r,ho,eT] at k1
 refine b3t rfl ?_
 simp (disch:=omega) [go_sem,b63,eT,ho]
 refine a0j k1 (by simp [go_sem,noRef]) (by simp (disch:=omega) [go_sem]) ?_
 simp (disch:=omega) [go_sem,ho,ho2,ho3,hg]
theorem d3u (hS:SentO G bk) (hA:Around G bk) {g:Gr} {s:Sn} {inn:Tn} {ws:List Tn} (hs:Seen g s) (hl:g.nodes.length < 2 ^ 36) (hinn:inn.sh) (hwl:ws.length < 2 ^ 30) (hws:∀ t∈ws,t.sh) {e:Er} (he:a7f s inn ws=e) (hne:e.isNil=false) :
  ACalls pg G a8h [d0r g,.agg (eT inn),slT ws] (.tup [.agg (eT tn0),a0t bk e]):=by
 have k1:=f1v hS hA hs hl hinn hwl hws he hne
 simp only [eT] at k1
 refine b3t rfl ?_
 simp (disch:=omega) [go_sem,b63,eT]
 refine a0j k1 (by simp [go_sem,noRef]) (by simp (disch:=omega) [go_sem]) ?_
 simp (disch:=omega) [go_sem,hne,tn0]
end
@[go_sem] theorem f8x {n:Int}:unO .neg (.lit (.int .i64 n))=some (.lit (.int .i64 (IntKind.i64.wrap (0 - n)))):=(rfl)
def e4y:Gr:=⟨[inN [0,1]],0⟩
def d08:Sn:=⟨[0],[⟨[1],false⟩],⟨[1],false⟩,[]⟩
theorem d42:ofR e4y=(d08,.nil):=by kernel_rfl
theorem e5o {z:List AV}:a6w 2 z=z++z:=by simp [a6w,List.replicate_succ]
section
variable {G:GG} {bk:Nat->Nat×Nat} {Q:Exit->St->Prop} {st:St}
theorem e10 (hS:SentO G bk) (hA:Around G bk):ACalls pg G a9x [] (lb true):=by
 have hn:∀ n∈e4y.nodes,n=inN [0,1]:=fun n hn=>by simpa [e4y] using hn
 have hsh:(inN [0,1]).sh:=⟨by simp [inN],by simp [inN],by simp [inN],by simp [inN]⟩
 have spec:=d18 hS hA (g:=e4y) (s:=d08) (inn:=⟨[1],false,[4]⟩) (ws:=[]) (T:=fun _=>⟨[1],false,[4]⟩) (N:=1) (o:=0) ⟨d42,fun n h=>by rw [hn n h]; exact hsh,by simp [e4y,inN,tot],by simp [d08],by simp [d08]⟩ (by omega)
  ⟨rfl,fun n h=>by rw [hn n h]; exact hsh,fun i hi=>⟨by simp,by simp⟩,fun j hj ho=>by
   obtain rfl:j=0:=by omega
   exact absurd ho (by decide),fun j hj ho=>by
   obtain rfl:j=0:=by omega
   exact absurd rfl ho⟩ rfl ⟨by simp,by simp⟩ (by simp) (fun t ht=>by cases ht) (fun i hi=>by
   obtain rfl:i=0:=by omega
   rfl) (by kernel_rfl) rfl (by omega)
 have hst:=d1o (G:=G) [1] false [4] (by simp) (by simp)
 have spec2:ACalls pg G a8h [.agg [.sl 1 [li 1,.sl 0 [],.sl 2 [li 0,li 1],.sl 0 [],lb false,.sl 0 []],li 0],.agg [.sl 1 [li 1],lb false,.sl 1 [li 4]],.sl 0 []] (.tup [.agg [.sl 1 [li 1],lb false,.sl 1 [li 4]],.lit .nilIface]):=spec
 refine a70 rfl ?_
 simp (disch:=omega) [go_sem,a5w]
 refine b1d spec2 (by simp [go_sem,noRef]) ?_ ?_
 all_goals
  simp (disch:=omega) [go_sem]
  refine a0e hst rfl rfl ?_
  simp (disch:=omega) [go_sem]
end
end Go.Ideal.Tryz
end
section
namespace Go.Ideal.Tryz
theorem b9g {n:Int}:∀ {keys:List Int} {vals:List Ds},n ∉ keys->c3g keys vals n=none
 | [],_,_=>by simp [c3g]
 | k::ks,[],_=>by simp [c3g]
 | k::ks,v::vs,h=>by
  simp only [List.mem_cons,not_or] at h
  simp only [c3g]
  rw [if_neg (fun hc=>h.1 hc.symm),b9g h.2]
theorem c3j {n:Int} {x:Ds}:∀ {keys:List Int} {vals:List Ds},n ∉ keys->keys.length=vals.length->b5d keys vals n x=(keys++[n],vals++[x])
 | [],[],_,_=>by simp [b5d]
 | [],_::_,_,h=>by simp at h
 | _::_,[],_,h=>by simp at h
 | k::ks,v::vs,h,hl=>by
  simp only [List.mem_cons,not_or] at h
  simp only [b5d]
  rw [if_neg (fun hc=>h.1 hc.symm),c3j h.2 (by simpa using hl)]
  rfl
theorem c3y {m:Nat}:(m:Int) ∉ b07 m:=by
 simp only [b07,List.mem_map,List.mem_range,not_exists,not_and]
 intro x hx h
 omega
def dS:Ds:=⟨[],true⟩
def sTn (v:Int):Tn:=⟨[],true,[v]⟩
def dwW (i:Nat):Nd:=⟨3,[],[(i:Int),1],[],false,[]⟩
def dwS:Nat->List Nd
 | 0=>[inN [1]]
 | n+1=>dwS n++[dwW n,opN 6 [2*(n:Int),2*(n:Int)+1] []]
def dwG (n:Nat):Gr:=⟨dwS n,2*(n:Int)⟩
theorem a5h:∀ {n:Nat},(dwS n).length=2*n+1
 | 0=>rfl
 | n+1=>by rw [dwS,List.length_append,a5h]; simp; omega
theorem a9h:∀ {n i:Nat},i < n->(dwS n)[2*i+1]! =dwW i/\(dwS n)[2*i+2]! =opN 6 [2*(i:Int),2*(i:Int)+1] []
 | 0,i,h=>by omega
 | n+1,i,h=>by
  have hl:(dwS n).length=2*n+1:=a5h
  have hl2:(dwS (n+1)).length=2*(n+1)+1:=a5h
  rw [b79 (by omega),b79 (by omega)]
  simp only [dwS]
  by_cases c:i < n
  ·have:=a9h c
   rw [List.getElem_append_left (by omega),List.getElem_append_left (by omega),<-b79 (by omega),<-b79 (by omega)]
   exact this
  ·obtain rfl:i=n:=by omega
   rw [List.getElem_append_right (by omega),List.getElem_append_right (by omega)]
   simp [hl]
theorem c9u:∀ {n:Nat},(dwS n)[0]! =inN [1]
 | 0=>rfl
 | n+1=>by
  have hl:(dwS n).length=2*n+1:=a5h
  have hl2:(dwS (n+1)).length=2*(n+1)+1:=a5h
  have:=c9u (n:=n)
  rw [b79 (by omega)] at this ⊢
  simp only [dwS]
  rw [List.getElem_append_left (by omega)]
  exact this
theorem b3u:∀ {n:Nat},∀ x∈dwS n,x.sh/\x.ins.length<=2/\(x.op=3->0 < x.args.length)
 | 0,x,hx=>by
  simp only [dwS,List.mem_singleton] at hx
  subst hx
  exact ⟨⟨by simp [inN],by simp [inN],by simp [inN],by simp [inN]⟩,by simp [inN],by simp [inN]⟩
 | n+1,x,hx=>by
  rw [dwS,List.mem_append] at hx
  rcases hx with hx | hx
  ·exact b3u x hx
  ·simp only [List.mem_cons,List.not_mem_nil,or_false] at hx
   rcases hx with rfl | rfl
   ·exact ⟨⟨by simp [dwW],by simp [dwW],by simp [dwW],by simp [dwW]⟩,by simp [dwW],by simp [dwW]⟩
   ·exact ⟨⟨by simp [opN],by simp [opN],by simp [opN],by simp [opN]⟩,by simp [opN],by simp [opN]⟩
theorem b3v {n i:Nat} (hi:i < 2*n+1):i=0\/(∃ k,i=2*k+1/\k < n)\/(∃ k,i=2*k+2/\k < n):=by
 rcases Nat.eq_zero_or_pos i with h | h
 ·exact .inl h
 ·rcases Nat.mod_two_eq_zero_or_one i with h2 | h2
  ·exact .inr (.inr ⟨i / 2 - 1,by omega,by omega⟩)
  ·exact .inr (.inl ⟨i / 2,by omega,by omega⟩)
def dwL (N m:Nat):Lk:={ lk0 (b07 N) N with input:=true,hin:=dS,ws:=List.replicate m dS,keys:=b07 m,vals:=List.replicate m dS }
theorem d03 {N k:Nat} {ds:List Ds} (hk:k < 8):a3b { dwL N k with descs:=ds } (dwW k)=((dS,.nil),{ dwL N (k+1) with descs:=ds }):=by
 have hf:a3v [(k:Int),1] 1=(dS,.nil):=rfl
 have hw:a3b { dwL N k with descs:=ds } (dwW k)=wtR { dwL N k with descs:=ds } [(k:Int),1]:=by
  simp [a3b,dwW,a3d]
 have ha:([(k:Int),1]:List Int)[0]! =k:=rfl
 rw [hw,wtR,if_neg (by simp),ha,if_neg (by omega),hf]
 have hg:c3g (b07 k) (List.replicate k dS) (k:Int)=none:=b9g c3y
 have hs:b5d (b07 k) (List.replicate k dS) (k:Int) dS=(b07 k++[(k:Int)],List.replicate k dS++[dS]):=c3j c3y (by rw [b3f]; simp)
 have hp:(b4j (List.replicate k dS) k).set k dS=List.replicate (k+1) dS:=by
  unfold b4j
  rw [List.length_replicate,show k+1 - k=1 by omega,List.set_append_right _ _ (by simp),List.length_replicate,Nat.sub_self]
  exact List.replicate_succ'.symm
 simp only [dwL,Er.isNil,if_true,hg,hs,Int.toNat_natCast,hp,Option.all_none]
 rw [<-c0g,<-List.replicate_succ']
theorem c7z:opR 6 [] [dS,dS]=(dS,.nil):=rfl
def c1h (n:Nat):Sn:=⟨b07 (2*n+1),(List.range (2*n+1)).map (fun _=>dS),dS,List.replicate n dS⟩
theorem e08 {n:Nat} (hn:n<=6):ofR (dwG n)=(c1h n,.nil):=by
 have hlen:(dwG n).nodes.length=2*n+1:=a5h
 have h0:(dwG n).nodes[0]! =inN [1]:=c9u
 have hw:∀ {k:Nat},k < n->(dwG n).nodes[2*k+1]! =dwW k:=fun h=>(a9h h).1
 have hm:∀ {k:Nat},k < n->(dwG n).nodes[2*k+2]! =opN 6 [2*(k:Int),2*(k:Int)+1] []:=fun h=>(a9h h).2
 refine d41 (g:=dwG n) (N:=2*n+1) (D:=fun _=>dS) (L:=fun i=>if i=0 then lk0 (b07 (2*n+1)) (2*n+1) else dwL (2*n+1) (i / 2)) hlen (by omega) (by simp only [dwG]; omega) (fun nd hnd=> ?_) (fun i hi x hx=> ?_) rfl (fun i hi=> ?_) |>.trans ?_
 ·have:=(b3u (n:=n) nd hnd).2.1
  omega
 ·rcases b3v hi with rfl | ⟨k,rfl,hk⟩ | ⟨k,rfl,hk⟩
  ·rw [h0] at hx; cases hx
  ·rw [hw hk] at hx; cases hx
  ·rw [hm hk] at hx
   simp only [opN,List.mem_cons,List.not_mem_nil,or_false] at hx
   omega
 ·rcases b3v hi with rfl | ⟨k,rfl,hk⟩ | ⟨k,rfl,hk⟩
  ·rw [h0]
   rfl
  ·rw [hw hk,if_neg (by omega),if_neg (by omega),show (2*k+1) / 2=k by omega,show (2*k+1+1) / 2=k+1 by omega]
   exact d03 (by omega)
  ·rw [hm hk,d04 rfl,if_neg (by omega),if_neg (by omega),show (2*k+2) / 2=k+1 by omega,show (2*k+2+1) / 2=k+1 by omega]
   have e1:∀ L:Lk,lkD { L with descs:=dTo (fun _=>dS) (2*n+1) (2*k+2) } [2*(k:Int),2*(k:Int)+1]=[dS,dS]:=by
    intro L
    simp only [lkD,List.map_cons,List.map_nil]
    rw [c6h (by omega),c6h (by omega)]
   rw [e1,c7z]
 ·rw [if_neg (by omega),show (2*n+1) / 2=n by omega]
  rfl
def a4a (s0:Int) (v:Nat->Int):Nat->Int
 | 0=>s0
 | k+1=>c89 (a4a s0 v k*v k)
def dwT (s0:Int) (v:Nat->Int) (i:Nat):Tn:=if i % 2=1 then sTn (v (i / 2)) else sTn (a4a s0 v (i / 2))
theorem c3u (n:Int): -2147483648<=c89 n/\c89 n<=2147483647:=by
 unfold c89
 rw [IntKind.wrap_i64,IntKind.wrap_i32,IntKind.wrap_u32,IntKind.wrap_u64]
 omega
theorem c8b {v:Int} (h: -2147483648<=v/\v<=2147483647):a5s [] true [v]= .nil:=by
 have hs:c3v []=true:=rfl
 rw [a5s,if_pos hs,if_pos (by rfl),c6x (fun x hx=>by simp only [List.mem_singleton] at hx; subst hx; simp [b68]; exact h)]
 rfl
theorem d3x {n:Nat} {s0:Int} {v:Nat->Int} (hn:n<=6) (h0:0<=s0/\s0 < 1000) (hv:∀ i,0<=v i/\v i < 1000):∀ i:Nat,i < 2*n+1->c5n (dwG n) (sTn s0) ((List.range n).map fun i=>sTn (v i)) (tTo (dwT s0 v) (2*n+1) i) (i:Int)=some (dwT s0 v i):=by
 have h0':(dwG n).nodes[0]! =inN [1]:=c9u
 have hw:∀ {k:Nat},k < n->(dwG n).nodes[2*k+1]! =dwW k:=fun h=>(a9h h).1
 have hm:∀ {k:Nat},k < n->(dwG n).nodes[2*k+2]! =opN 6 [2*(k:Int),2*(k:Int)+1] []:=fun h=>(a9h h).2
 have hsr:∀ k,-2147483648<=a4a s0 v k/\a4a s0 v k<=2147483647:=by
  intro k
  cases k with
  | zero=>simp only [a4a]; omega
  | succ k=>exact c3u _
 intro i hi
 unfold c5n
 rw [Int.toNat_natCast]
 rcases b3v hi with rfl | ⟨k,rfl,hk⟩ | ⟨k,rfl,hk⟩
 ·rw [h0']; rfl
 ·rw [hw hk]
  have e1:((dwW k).args[0]!).toNat=k:=by simp [dwW]
  have e2:dwT s0 v (2*k+1)=sTn (v k):=by
   rw [dwT,if_pos (by omega),show (2*k+1) / 2=k by omega]
  simp only [e1,e2]
  rw [if_neg (by simp [dwW]),if_pos (show (dwW k).op=3 from rfl),b79 (by simpa using hk)]
  simp
 ·rw [hm hk]
  have e1:(tTo (dwT s0 v) (2*n+1) (2*k+2))[(2*(k:Int)).toNat]! =sTn (a4a s0 v k):=by
   rw [b4w (by omega),show (2*(k:Int)).toNat=2*k by omega,dwT,if_neg (by omega),show 2*k / 2=k by omega]
  have e2:(tTo (dwT s0 v) (2*n+1) (2*k+2))[(2*(k:Int)+1).toNat]! =sTn (v k):=by
   rw [b4w (by omega),show (2*(k:Int)+1).toNat=2*k+1 by omega,dwT,if_pos (by omega),show (2*k+1) / 2=k by omega]
  simp only [opN,List.map_cons,List.map_nil,e1,e2]
  rw [if_neg (by omega),if_neg (by omega),if_neg (by omega)]
  unfold c2z
  have ht1:tOk (sTn (a4a s0 v k))=true:=by simp [tOk,sTn,c8b (hsr k),Er.isNil]
  have ht2:tOk (sTn (v k))=true:=by
   have:=hv k
   simp [tOk,sTn,c8b (v:=v k) (by omega),Er.isNil]
  have hdd:∀ x,tnD (sTn x)=dS:=fun _=>rfl
  simp only [List.map_cons,List.map_nil,hdd,c7z]
  rw [if_pos ⟨by simp [ht1,ht2],rfl,rfl⟩]
  congr 1
  have hT:dwT s0 v (2*k+2)=sTn (c89 (a4a s0 v k*v k)):=by
   rw [dwT,if_neg (by omega),show (2*k+2) / 2=k+1 by omega]
   rfl
  rw [hT]
  rfl
end Go.Ideal.Tryz
end
section
namespace Go.Ideal.Tryz
attribute [local go_sem] eD
def a2i:IC:=(.seq (.seq (.reg [om 8 4,
 om 9 0,
 oo 10 (.len 34 false (.t 9)),
 oo 11 (.bin .lss 3 0 (.t 8) (.t 10) 3)]) (.cond (.t 11) .skip (.exit 0))) (.seq (.block 1 (.reg [om 14 3,
 om 15 0,
 om 16 4,
 oo 17 (.iaddr 34 3 (.t 15) (.t 16)),
 oo 18 (.load 28 (some 3) (.t 17)),
 oc 19 12 [(false,(.t 18))] [28],
 oo 20 (.bslice 34 28 3 1 [.own 1 0 [],.lit (.bool false),.own 1 0 []] [(0,(.t 19))]),
 oo 21 (.app 34 28 3 56 (.t 14) (.t 20)),
 oo 3 (.asg (.t 21))])) (.reg [om 12 4,
 oo 13 (.bin .add 3 0 (.t 12) (.n 1) 3),
 oo 4 (.asg (.t 13))])))
def a5x:IC:=(.seq (.reg [oo 2 (.asg (.nl 3))]) (.seq (.reg [om 5 0,
 oo 6 (.len 34 false (.t 5)),
 oo 7 (.mks 34 28 3 56 [.own 1 0 [],.lit (.bool false),.own 1 0 []] (.n 0) (.t 6)),
 oo 3 (.asg (.t 7))]) (.seq (.seq (.reg [oo 4 (.asg (.n 0))]) (.block 0 (.loop a2i))) (.seq (.reg [om 22 3,
 oo 2 (.asg (.t 22))]) .ret))))
abbrev a9y:Nat:=8
theorem a75:fnC pg 8 23 [(.tmp 2)] a5x:=a0w Go.Proofs.Tryz.f8 [(.tmp 2)] (by kernel_rfl)
@[go_sem] theorem c0n:fnB pg 8=true:=by kernel_rfl
section
variable {G:GG} {bk:Nat->Nat×Nat} {Q:Exit->St->Prop} {st:St}
theorem d1k {ts:List Tn} (hl:ts.length < 2 ^ 30) (hts:∀ t∈ts,t.sh) (h:st.s 0=slT ts/\st.s 2= .own 3 0 []/\st.s 3= .own 3 0 []/\st.s 4=li 0)
  (hex:∀ s:St,s.s 2= .own 3 0 []/\s.s 3= .own 3 ts.length (fm oT ts)->Q (.exit 0) s):AW pg G 23 (.loop a2i) Q st:=by
 refine a1c Nat (fun j st=>j<=ts.length/\st.s 0=slT ts/\st.s 2= .own 3 0 []/\st.s 3= .own 3 j (fm oT (ts.take j))/\st.s 4=li j) (fun j=>ts.length - j) 0 ⟨by omega,by simpa [a7w] using h⟩ ?_
 clear h
 rintro j st K ⟨hj,h⟩ hK
 by_cases c:j < ts.length
 ·have hsh:=hts _ (List.getElem_mem c)
  have h1:=hsh.shape
  have h2:=hsh.data
  have spec:=c9s (G:=G) ts[j].shape ts[j].wide ts[j].data (by omega) (by omega)
  have ht:(fm oT (ts.take j)).take (j*3)=fm oT (ts.take j):=a3j (fun _=>rfl) (by simp; omega)
  have e2:ts.take (j+1)=ts.take j++[ts[j]]:=List.take_succ_eq_append_getElem c
  generalize hv:fm oT (ts.take j)=v at *
  simp (disch:=omega) [go_sem,a2i,h,c]
  refine a0e spec rfl (by simp [a0x,a03,a1q]) ?_
  simp (disch:=omega) [go_sem,h,c,ht]
  refine hK (j+1) _ ⟨by omega,?_⟩ (by omega)
  rw [e2,a7v,a82,hv]
  simp (disch:=omega) [go_sem,h,ht,oT]
 ·have:j=ts.length:=by omega
  subst this
  rw [List.take_length] at h
  simp (disch:=omega) [go_sem,a2i,h]
  exact hex _ (by simp (disch:=omega) [go_sem,h])
theorem e54 (ts:List Tn) (hl:ts.length < 2 ^ 30) (hts:∀ t∈ts,t.sh):ACalls pg G a9y [slT ts] (.own 3 ts.length (fm oT ts)):=by
 refine a75 rfl ?_
 simp (disch:=omega) [go_sem,a5x]
 refine d1k (ts:=ts) hl hts (by simp (disch:=omega) [go_sem]) (fun s h=> ?_)
 have ht:(fm oT ts).take (ts.length*3)=fm oT ts:=d40
 simp (disch:=omega) [go_sem,h,ht]
end
def dwV (l:List Int) (i:Nat):Int:=c5b (IntKind.i64.wrap (l[i % l.length]! *((i:Int)+3))) 1000
def a4r (v:Nat->Int) (n:Nat):List Tn:=(List.range n).map fun i=>sTn (v i)
@[simp] theorem c9v {v:Nat->Int} {n:Nat}:(a4r v n).length=n:=by simp [a4r]
theorem b0c {v:Nat->Int} {n:Nat}:a4r v (n+1)=a4r v n++[sTn (v n)]:=by simp [a4r,List.range_succ]
theorem b0b {v:Nat->Int} {n:Nat}:∀ t∈a4r v n,∃ i,t=sTn (v i):=by
 intro t ht
 simp only [a4r,List.mem_map,List.mem_range] at ht
 obtain ⟨i,_,rfl⟩:=ht
 exact ⟨i,rfl⟩
theorem b01 (x:Int):(sTn x).sh:=⟨by simp [sTn],by simp [sTn]⟩
theorem b7f {x:Int} (h: -2147483648<=x/\x<=2147483647):b2w (sTn x) dS= .nil:=by
 have:tOk (sTn x)=true:=by simp [tOk,sTn,c8b h,Er.isNil]
 have h2:tOk ⟨[],true,[x]⟩=true:=this
 simp [b2w,h2,tnD,sTn,dS]
theorem d4o:b2w ⟨[],false,[1]⟩ dS= .s 6:=by kernel_rfl
theorem b74 {v:Nat->Int} (hv:∀ i,0<=v i/\v i < 1000):∀ (l:List Nat) (r:List Tn) (m:Nat),l.length<=m->b24 (l.map (fun i=>sTn (v i))++r) (List.replicate m dS)=b24 r (List.replicate (m - l.length) dS)
 | [],r,m,_=>by simp
 | i::l,r,0,h=>by simp at h
 | i::l,r,m+1,h=>by
  have:=hv i
  rw [List.map_cons,List.cons_append,List.replicate_succ,b24,b7f (by omega),if_pos (show Er.nil.isNil=true from rfl),b74 hv l r m (by simpa using h)]
  simp
section
variable {G:GG} {bk:Nat->Nat×Nat} {Q:Exit->St->Prop} {st:St}
theorem c6m {n:Nat} (hn:n<=4):Seen (dwG n) (c1h n):=by
 have htot:tot ((dwG n).nodes.map (·.ins))<=2*((dwG n).nodes.map (·.ins)).length:=e6x (fun r hr=>by
  obtain ⟨x,hx,rfl⟩:=List.mem_map.1 hr
  exact (b3u (n:=n) x hx).2.1)
 have hlen:(dwG n).nodes.length=2*n+1:=a5h
 rw [List.length_map,hlen] at htot
 exact ⟨e08 (by omega),fun x hx=>(b3u (n:=n) x hx).1,by omega,by simp [c1h,dS],by simp [c1h]; omega,fun d hd=>by
  simp only [c1h,List.mem_replicate] at hd
  rw [hd.2]; simp [dS]⟩
theorem e07 (hS:SentO G bk) (hA:Around G bk) {n:Nat} {s0:Int} {v:Nat->Int} (hn:n<=4) (h0:0<=s0/\s0 < 1000) (hv:∀ i,0<=v i/\v i < 1000) :
  ACalls pg G a8h [d0r (dwG n),.agg (eT (sTn s0)),slT (a4r v n)] (.tup [.agg (eT (sTn (a4a s0 v n))),.lit .nilIface]):=by
 have hlen:(dwG n).nodes.length=2*n+1:=a5h
 have hT:dwT s0 v (2*n)=sTn (a4a s0 v n):=by
  rw [dwT,if_neg (by omega),show 2*n / 2=n by omega]
 have hsh:∀ i,(dwT s0 v i).shape=[]:=by
  intro i
  unfold dwT
  split<;>rfl
 have h0':(dwG n).nodes[0]! =inN [1]:=c9u
 have hw:∀ {k:Nat},k < n->(dwG n).nodes[2*k+1]! =dwW k:=fun h=>(a9h h).1
 have hm:∀ {k:Nat},k < n->(dwG n).nodes[2*k+2]! =opN 6 [2*(k:Int),2*(k:Int)+1] []:=fun h=>(a9h h).2
 have spec:=d18 hS hA (g:=dwG n) (s:=c1h n) (inn:=sTn s0) (ws:=a4r v n) (T:=dwT s0 v) (N:=2*n+1) (o:=2*n) (c6m hn) (by omega)
  ⟨hlen,fun x hx=>(b3u (n:=n) x hx).1,fun i hi=>by unfold dwT; split<;>exact b01 _,fun j hj ho=>by
   rcases b3v hj with rfl | ⟨k,rfl,hk⟩ | ⟨k,rfl,hk⟩
   ·rw [h0'] at ho; exact absurd ho (by decide)
   ·rw [hw hk]
    exact ⟨k,[1],rfl,by simpa using hk⟩
   ·rw [hm hk] at ho; simp [opN] at ho,fun j hj o1 o2 o3=>by
   rcases b3v hj with rfl | ⟨k,rfl,hk⟩ | ⟨k,rfl,hk⟩
   ·rw [h0'] at o1; exact absurd rfl o1
   ·rw [hw hk] at o3; exact absurd rfl o3
   ·rw [hm hk]
    have hks:∀ k2∈[2*(k:Int),2*(k:Int)+1],0<=k2/\k2 < ((2*k+2:Nat):Int):=by
     intro k2 hk2
     simp only [List.mem_cons,List.not_mem_nil,or_false] at hk2
     omega
    refine ⟨rfl,fun a ha=>(by cases ha),hks,.inr ⟨rfl,.inr (.inr (.inl rfl))⟩,fun x hx=> ?_⟩
    have e1:(tTo (dwT s0 v) (2*n+1) (2*k+2))[(2*(k:Int)).toNat]! =sTn (a4a s0 v k):=by
     rw [b4w (by omega),show (2*(k:Int)).toNat=2*k by omega,dwT,if_neg (by omega),show 2*k / 2=k by omega]
    have e2:(tTo (dwT s0 v) (2*n+1) (2*k+2))[(2*(k:Int)+1).toNat]! =sTn (v k):=by
     rw [b4w (by omega),show (2*(k:Int)+1).toNat=2*k+1 by omega,dwT,if_pos (by omega),show (2*k+1) / 2=k by omega]
    simp only [opN,b52,List.map_cons,List.map_nil,e1,e2,List.mem_cons,List.not_mem_nil,or_false] at hx ⊢
    rcases hx with rfl | rfl<;>exact Int.le_refl _⟩ rfl (b01 _) (by simp; omega) (fun t ht=>by obtain ⟨i,rfl⟩:=b0b t ht; exact b01 _) (d3x (by omega) h0 hv) (by
   have:=b74 hv (List.range n) [] n (by simp)
   rw [List.append_nil] at this
   unfold a7f
   rw [show (c1h n).hin=dS from rfl,b7f (by omega),if_pos (show Er.nil.isNil=true from rfl),if_pos (by simp [c1h])]
   exact this.trans (by cases (n - (List.range n).length)<;>rfl)) rfl (by omega)
 rw [hT] at spec
 exact spec
theorem c6l (hS:SentO G bk) (hA:Around G bk) {n:Nat} {s0:Int} {ws:List Tn} (hn:n<=4) (h0:0<=s0/\s0 < 1000) (hl:ws.length < 2 ^ 30) (hws:∀ t∈ws,t.sh) (he:a7f (c1h n) (sTn s0) ws= .s 6) :
  ACalls pg G a8h [d0r (dwG n),.agg (eT (sTn s0)),slT ws] (.tup [.agg (eT tn0),a0t bk (.s 6)]):=
 d3u hS hA (c6m hn) (by have:(dwG n).nodes.length=2*n+1:=a5h; omega) (b01 _) hl hws he rfl
theorem d2a {n:Nat} {s0:Int} {ws:List Tn} (h0:0<=s0/\s0 < 1000) (hl:ws.length≠n):a7f (c1h n) (sTn s0) ws= .s 6:=by
 unfold a7f
 rw [show (c1h n).hin=dS from rfl,b7f (by omega),if_pos (show Er.nil.isNil=true from rfl),if_neg (by simpa [c1h] using hl)]
theorem e06 {n:Nat} {s0:Int} {v:Nat->Int} (h0:0<=s0/\s0 < 1000) (hv:∀ i,0<=v i/\v i < 1000):a7f (c1h (n+1)) (sTn s0) (a4r v n++[⟨[],false,[1]⟩])= .s 6:=by
 have:=b74 hv (List.range n) [⟨[],false,[1]⟩] (n+1) (by simp)
 unfold a7f
 rw [show (c1h (n+1)).hin=dS from rfl,b7f (by omega),if_pos (show Er.nil.isNil=true from rfl),if_pos (by simp [c1h])]
 refine this.trans ?_
 rw [List.length_range,show n+1 - n=1 by omega,List.replicate_one,b24,d4o]
 rfl
theorem f2v {l:List Int} {n:Nat} {s0 wh:Int} (hl:1<=l.length/\l.length<=20) (hn:n<=4) (hs0:0<=s0/\s0 < 1000) (h:st.s 0=slI l/\st.s 1=li n/\st.s 2=li wh/\st.s 7=lb true/\st.s 11= .var [.own 1 0 [],lb true,.own 1 1 [li s0]]/\st.s 8= .var [.own 6 1 (fm b5v (dwS 0)),li 0]/\st.s 9= .own 3 0 []/\st.s 10=li s0/\st.s 12=li 0/\st.s 13=li 0)
  (hex:∀ s:St,(s.s 0=slI l/\s.s 1=li n/\s.s 2=li wh/\s.s 7=lb true/\s.s 11= .var [.own 1 0 [],lb true,.own 1 1 [li s0]]/\s.s 8= .var [.own 6 (2*n+1) (fm b5v (dwS n)),li 0]/\s.s 9= .own 3 n (fm oT (a4r (dwV l) n))/\s.s 10=li (a4a s0 (dwV l) n)/\s.s 12=li (2*(n:Int)))->Q (.exit 0) s):AW pg G 173 (.loop a1o) Q st:=by
 refine a1c Nat (fun j st=>j<=n/\st.s 0=slI l/\st.s 1=li n/\st.s 2=li wh/\st.s 7=lb true/\st.s 11= .var [.own 1 0 [],lb true,.own 1 1 [li s0]]/\st.s 8= .var [.own 6 (2*j+1) (fm b5v (dwS j)),li 0]/\st.s 9= .own 3 j (fm oT (a4r (dwV l) j))/\st.s 10=li (a4a s0 (dwV l) j)/\st.s 12=li (2*(j:Int))/\st.s 13=li j) (fun j=>n - j) 0 ⟨by omega,by simpa [a4r,a7w,a4a] using h⟩ ?_
 clear h
 rintro j st K1 ⟨hj,h⟩ hK
 have c3:¬ l=[]:=by rintro rfl; simp at hl
 by_cases c:j < n
 ·have hk:j % l.length < l.length:=Nat.mod_lt _ (by omega)
  have hrem:Int.tmod (j:Int) (l.length:Int)=((j % l.length:Nat):Int):=by
   rw [Int.tmod_eq_emod_of_nonneg (by omega)]; simp
  have hv:dwV l j=c5b (IntKind.i64.wrap (l[j % l.length]*((j:Int)+3))) 1000:=by
   rw [dwV,b79 hk]
  have spec:=b29 (G:=G) (IntKind.i64.wrap (l[j % l.length]*((j:Int)+3))) 1000 (by decide) (by decide)
  rw [<-hv] at spec
  have hvr:0<=dwV l j/\dwV l j < 1000:=by rw [hv]; exact b0r (by decide)
  have hsr: -2147483648<=a4a s0 (dwV l) j/\a4a s0 (dwV l) j<=2147483647:=by
   cases j with
   | zero=>simp only [a4a]; omega
   | succ j=>exact c3u _
  have hmul: -2199023255552<=a4a s0 (dwV l) j*dwV l j/\a4a s0 (dwV l) j*dwV l j<=2199023255552:=by
   have h1:(a4a s0 (dwV l) j).natAbs<=2147483648:=by omega
   have h2:(dwV l j).natAbs<=1024:=by omega
   have h3:(a4a s0 (dwV l) j*dwV l j).natAbs<=2147483648*1024:=by rw [Int.natAbs_mul]; exact Nat.mul_le_mul h1 h2
   omega
  have e1:fm b5v (dwS (j+1))=fm b5v (dwS j)++[li 3,.own 1 0 [],.own 1 2 [li j,li 1],.own 1 0 [],lb false,.own 1 0 [],li 6,.own 1 2 [li (2*(j:Int)),li (2*(j:Int)+1)],.own 1 0 [],.own 1 0 [],lb false,.own 1 0 []]:=by
   rw [dwS,a7v]; rfl
  have e2:fm oT (a4r (dwV l) (j+1))=fm oT (a4r (dwV l) j)++[.own 1 0 [],lb true,.own 1 1 [li (dwV l j)]]:=by
   rw [b0c,a7v,a82]; rfl
  have e3:a4a s0 (dwV l) (j+1)=c89 (a4a s0 (dwV l) j*dwV l j):=rfl
  have hgl:(dwS j).length=2*j+1:=a5h
  have ht:(fm b5v (dwS j)).take ((2*j+1)*6)=fm b5v (dwS j):=by rw [<-hgl]; exact b89
  have ht2:(fm oT (a4r (dwV l) j)).take (j*3)=fm oT (a4r (dwV l) j):=a3j (fun _=>rfl) (by simp)
  generalize fm b5v (dwS j)=gv at *
  generalize fm oT (a4r (dwV l) j)=wv at *
  generalize a4a s0 (dwV l) j=sm at *
  generalize hvj:dwV l j=vj at *
  clear hv
  have n1:2*(j+1)+1=2*j+1+2:=by omega
  have n2:2*(((j+1:Nat)):Int)=2*(j:Int)+2:=by omega
  simp (disch:=omega) [go_sem,a1o,h,c,hrem,hk,c3]
  refine a0e spec rfl rfl ?_
  simp (disch:=omega) [go_sem,h,c,ht,ht2,e5o,a0h]
  refine hK (j+1) _ ⟨by omega,?_⟩ (by omega)
  rw [e1,e2,e3,n1,n2]
  simp (disch:=omega) [go_sem,h,ht,ht2,c89]
  omega
 ·have:j=n:=by omega
  subst this
  simp (disch:=omega) [go_sem,a1o,h]
  exact hex _ (by simp (disch:=omega) [go_sem,h])
theorem c1i {n:Nat} {w0 sm3:Int} {gw we we':List AV} (hS:Sent G bk) (hn:1<=n/\n<=4)
  (p3:ACalls pg G a8h [.agg [.sl (2*n+1) gw,li (2*(n:Int))],.agg [.sl 0 [],lb true,.sl 1 [li w0]],.sl n we] (.tup [.agg [.sl 0 [],lb true,.sl 1 [li sm3]],.lit .nilIface]))
  (he:we= .sl 0 []::lb true:: .sl 1 [li w0]::we')
  (h:st.s 8= .var [.sl (2*n+1) gw,li (2*(n:Int))]/\st.s 9= .sl n we/\st.s 19=a0t bk (.s 6)) :
  AW pg G 173 (.draw lodgelaw19_DenWeights_r33 [[],[],[1],[2],[],[0,3,4],[5],[6],[6],[],[9,7,5,0,1,2,3,4,5,6,7,9],[8,10,0,1,2,3,4,5,6,7,8,9,10]])
   (b05 (AW pg G 173 (.seq (.reg lodgelaw19_DenWeights_r34) .ret) (c95 [.tmp 6] (lb true))) (c95 [.tmp 6] (lb true))) st:=by
 subst he
 refine a0b ?_
 simp (disch:=omega) [go_sem,lodgelaw19_DenWeights_r33,h]
 refine c26 p3 rfl rfl (by simp) [164] (by simp) (by simp (disch:=omega) [go_sem,h]) ?_
 simp (disch:=omega) [go_sem,h]
 refine a0d (by decide) fun s2 hs2 hep=> ?_
 simp (disch:=omega) [go_sem,lodgelaw19_DenWeights_r34,hs2,hep,h]
 have k6:ACalls pg G a9z [a0t bk (.s 6),li 101] (lb true):=g3f hS (e:= .s 6) (.s (by decide)) 101
 refine a0e k6 rfl rfl ?_
 simp (disch:=omega) [go_sem,hs2,hep,h]
theorem b3r (hS:Sent G bk) (hA:Around G bk) (l:List Int) (a1 wh:Int):ACalls pg G a6x [slI l,li a1,li wh] (lb true):=by
 have r1:=b0r (n:=a1) (m:=4) (by decide)
 have k1:=b29 (G:=G) a1 4 (by decide) (by decide)
 obtain ⟨m,hm⟩:∃ m:Nat,c5b a1 4=m:=⟨(c5b a1 4).toNat,by omega⟩
 rw [hm] at k1 r1
 obtain ⟨n,hn⟩:∃ n:Nat,n=m+1:=⟨_,rfl⟩
 have hn1:(m:Int)+1=(n:Int):=by omega
 have hn2:(n:Int) - 1=(m:Int):=by omega
 have hn3:(n:Int) - 1 < n:=by omega
 refine a5r rfl ?_
 simp (disch:=omega) [go_sem,a30]
 refine a0e (e10 hS.o hA) rfl rfl ?_
 simp (disch:=omega) [go_sem]
 refine a0e k1 rfl rfl ?_
 by_cases c1:20 < l.length
 ·have c1':(20:Int) < l.length:=by omega
  simp (disch:=omega) [go_sem,c1']
 have c1':¬ (20:Int) < l.length:=by omega
 by_cases c2:l.length=0
 ·have c2':(l.length:Int)=0:=by omega
  simp (disch:=omega) [go_sem,c1',c2']
 have c2':¬ l=[]:=by rintro rfl; exact c2 rfl
 have c3:0 < l.length:=by omega
 have k2:=b29 (G:=G) l[0] 1000 (by decide) (by decide)
 have r2:=b0r (n:=l[0]) (m:=1000) (by decide)
 generalize c5b l[0] 1000=s0 at *
 simp (disch:=omega) [go_sem,c1',c2',c3,hn1]
 refine a0e k2 rfl rfl ?_
 simp (disch:=omega) [go_sem,hn1]
 refine f2v (l:=l) (n:=n) (s0:=s0) (wh:=wh) (by omega) (by omega) r2 (by simp (disch:=omega) [go_sem,hn1,dwS,a82,b5v,inN]) (fun s h=> ?_)
 have hvr:∀ i,0<=dwV l i/\dwV l i < 1000:=fun i=>b0r (by decide)
 have p1:=e07 hS.o hA (n:=n) (s0:=s0) (v:=dwV l) (by omega) r2 hvr
 have p3:=e07 hS.o hA (n:=n) (s0:=dwV l 0) (v:=dwV l) (by omega) (hvr 0) hvr
 have hts:∀ t∈a4r (dwV l) n,t.sh:=fun t ht=>by obtain ⟨i,rfl⟩:=b0b t ht; exact b01 _
 have p2:=e54 (G:=G) (a4r (dwV l) n) (by simp; omega) hts
 have q0:=c6l hS.o hA (n:=n) (s0:=s0) (ws:=a4r (dwV l) m) (by omega) r2 (by simp; omega) (fun t ht=>by obtain ⟨i,rfl⟩:=b0b t ht; exact b01 _) (d2a r2 (by simp; omega))
 have q1:=c6l hS.o hA (n:=n) (s0:=s0) (ws:=a4r (dwV l) n++[sTn (dwV l 0)]) (by omega) r2 (by simp; omega) (fun t ht=>by
  rcases List.mem_append.1 ht with ht | ht
  ·obtain ⟨i,rfl⟩:=b0b t ht; exact b01 _
  ·simp only [List.mem_singleton] at ht; subst ht; exact b01 _) (d2a r2 (by simp))
 have q2:=c6l hS.o hA (n:=n) (s0:=s0) (ws:=a4r (dwV l) m++[⟨[],false,[1]⟩]) (by omega) r2 (by simp; omega) (fun t ht=>by
  rcases List.mem_append.1 ht with ht | ht
  ·obtain ⟨i,rfl⟩:=b0b t ht; exact b01 _
  ·simp only [List.mem_singleton] at ht; subst ht; exact ⟨by simp,by simp⟩) (by rw [hn]; exact e06 r2 hvr)
 have hgl:(dwS n).length=2*n+1:=a5h
 have hg2:(dwG n).nodes=dwS n:=rfl
 have hg3:(dwG n).out=2*(n:Int):=rfl
 simp only [d0r,slN,hg2,hg3,hgl,slT,c9v,List.length_append,List.length_singleton,eT,sTn,a7v,a82] at p1 p2 p3 q0 q1 q2
 have hz:a1k (fm b5v (dwS n))=fm a5q (dwS n):=c93
 have ht:(fm b5v (dwS n)).take ((2*n+1)*6)=fm b5v (dwS n):=by rw [<-hgl]; exact b89
 have hz2:a1k (fm oT (a4r (dwV l) n))=fm eT (a4r (dwV l) n):=d2o
 have ht2:(fm oT (a4r (dwV l) n)).take (n*3)=fm oT (a4r (dwV l) n):=a3j (fun _=>rfl) (by simp)
 have ht3:(fm eT (a4r (dwV l) n)).take (n*3)=fm eT (a4r (dwV l) n):=a3j (fun _=>rfl) (by simp)
 have hm1:(fm oT (a4r (dwV l) n)).take (m*3)=fm oT (a4r (dwV l) m):=by
  rw [hn,b0c,a7v,List.take_left' (by rw [a4s (k:=3) (fun _=>rfl)]; simp [Nat.mul_comm])]
 have hm2:a1k (fm oT (a4r (dwV l) m))=fm eT (a4r (dwV l) m):=d2o
 have hm3:(fm eT (a4r (dwV l) m)).take (m*3)=fm eT (a4r (dwV l) m):=a3j (fun _=>rfl) (by simp)
 obtain ⟨we',hwe⟩:∃ we',fm eT (a4r (dwV l) n)= .sl 0 []::lb true:: .sl 1 [li (dwV l 0)]::we':=by
  refine ⟨fm eT ((List.range m).map fun i=>sTn (dwV l (i+1))),?_⟩
  rw [hn,a4r,List.range_succ_eq_map,List.map_cons,List.map_map,a3z]; rfl
 have hm4:∀ a b c:AV,List.take ((n+1)*3) (fm eT (a4r (dwV l) n)++[a,b,c])=fm eT (a4r (dwV l) n)++[a,b,c]:=fun a b c=>List.take_of_length_le (by
  rw [List.length_append,a4s (k:=3) (fun _=>rfl)]; simp; omega)
 have hi2:a03 (fm oT (a4r (dwV l) n))=true:=d06
 have hsp:fm oT (a4r (dwV l) n)=fm oT (a4r (dwV l) m)++[.own 1 0 [],lb true,.own 1 1 [li (dwV l m)]]:=by
  rw [hn,b0c,a7v,a82]; rfl
 have hsq:fm eT (a4r (dwV l) n)=fm eT (a4r (dwV l) m)++[.sl 0 [],lb true,.sl 1 [li (dwV l m)]]:=by
  rw [hn,b0c,a7v,a82]; rfl
 generalize fm b5v (dwS n)=gv at *
 generalize fm a5q (dwS n)=gw at *
 have hs1:=b1w (G:=G) (a:=[a4a s0 (dwV l) n]) (b:=[a4a s0 (dwV l) n]) (by simp)
 generalize a4a s0 (dwV l) n=sm at *
 generalize a4a (dwV l 0) (dwV l) n=sm3 at *
 simp (disch:=omega) [go_sem,h,ht,hz,hz2,ht2,ht3]
 refine c59 p1 rfl rfl ?_
 simp (disch:=omega) [go_sem,h,ht3]
 refine a0e hs1 rfl rfl ?_
 simp (disch:=omega) [go_sem,h,ht3]
 refine a0e p2 rfl (by simpa [a0x] using hi2) ?_
 simp (disch:=omega) [go_sem,h,ht3]
 refine a0e (b29 wh 3 (by decide) (by decide)) rfl rfl ?_
 have r3:=b0r (n:=wh) (m:=3) (by decide)
 rcases (show c5b wh 3=0\/c5b wh 3=1\/c5b wh 3=2 by omega) with e | e | e
 ·simp (disch:=omega) [go_sem,h,ht3,e,hn2,hn3,hm1,hm2,hm3]
  refine a0e q0 rfl rfl ?_
  simp (disch:=omega) [go_sem,h,ht3,e,hn2,hn3,hm1,hm2,hm3]
  exact c1i hS (by omega) p3 hwe (by simp (disch:=omega) [go_sem,h,ht3,e,hn2,hn3,hm1,hm2,hm3])
 ·simp (disch:=omega) [go_sem,h,ht3,e,hn2,hn3,hm1,hm2,hm3,hwe]
  rw [<-hwe]
  simp (disch:=omega) [go_sem,ht2,hz2,b7a,hm4]
  refine a0e q1 rfl rfl ?_
  simp (disch:=omega) [go_sem,h,ht3,e,hn2,hn3,hm1,hm2,hm3]
  exact c1i hS (by omega) p3 hwe (by simp (disch:=omega) [go_sem,h,ht3,e,hn2,hn3,hm1,hm2,hm3])
 ·have hla:(fm oT (a4r (dwV l) m)).length=m*3:=by rw [a4s (k:=3) (fun _=>rfl)]; simp [Nat.mul_comm]
  have hsl:∀ x:AV,a0h (fm oT (a4r (dwV l) n)) (m*3+1) [x]=fm oT (a4r (dwV l) m)++[.own 1 0 [],x,.own 1 1 [li (dwV l m)]]:=fun x=>by
   rw [hsp]
   simp [a0h,hla,List.set_append,List.take_append,List.drop_append,show m*3+1 - m*3=1 by omega,show m*3+1+1 - m*3=2 by omega]
   rw [List.take_of_length_le (by omega),List.drop_eq_nil_of_le (by omega)]; rfl
  have hgt:∀ a b c:AV,(fm oT (a4r (dwV l) m)++[a,b,c])[m*3+2]? =some c:=fun a b c=>by
   rw [List.getElem?_append_right (by omega),hla,show m*3+2 - m*3=2 by omega]; rfl
  have hst:∀ a b c x:AV,(fm oT (a4r (dwV l) m)++[a,b,c]).set (m*3+2) x=fm oT (a4r (dwV l) m)++[a,b,x]:=fun a b c x=>by
   rw [List.set_append_right _ _ (by omega),hla,show m*3+2 - m*3=2 by omega]; rfl
  have hlb:∀ a b c:AV,(fm oT (a4r (dwV l) m)++[a,b,c]).length=n*3:=fun a b c=>by simp [hla]; omega
  have hm5:∀ a b c:AV,List.take (n*3) (fm eT (a4r (dwV l) m)++[a,b,c])=fm eT (a4r (dwV l) m)++[a,b,c]:=fun a b c=>List.take_of_length_le (by
   rw [List.length_append,a4s (k:=3) (fun _=>rfl)]; simp; omega)
  have b1:m*3 < n*3:=by omega
  have b2:m*3+2 < n*3:=by omega
  simp (disch:=omega) [go_sem,h,ht3,e,hn2,hn3,hm1,hm2,hm3,hsl,hgt,hst,hlb,b1,b2,b7a,hm5]
  rw [<-hn] at q2
  refine a0e q2 rfl rfl ?_
  simp (disch:=omega) [go_sem,h,ht3,e,hn2,hn3,hm1,hm2,hm3]
  exact c1i hS (by omega) p3 hwe (by simp (disch:=omega) [go_sem,h,ht3,e,hn2,hn3,hm1,hm2,hm3])
end
end Go.Ideal.Tryz
end
