/- Part Qak of the proof: walks on a machine that is proved sound. -/
import Derived.Test.YtlemfkimffoiiaaGreatDoorQai
import Derived.Test.YtlemfkimffoiiaaGreatDoorQah
import Derived.Test.YtlemfkimffoiiaaGreatDoorQaj
set_option linter.unusedVariables false
set_option linter.unusedSimpArgs false
set_option maxRecDepth 10000
section
namespace Go.Ideal.Tryz
section
variable {G:GG} {bk:Nat->Nat×Nat} {Q:Exit->St->Prop} {st:St}
theorem b0h {e:Er}:e.isNil=true↔e= .nil:=by cases e<;>simp [Er.isNil]
theorem g3f (hS:Sent G bk) {e:Er} (he:e.ok) (k:Int):ACalls pg G a9z [a0t bk e,li k] (lb (decide (e.flt=(k,false,0)))):=by
 refine b2x rfl ?_
 simp (disch:=omega) [go_sem,b0o]
 refine a0e (d13 k) rfl rfl ?_
 simp (disch:=omega) [go_sem]
 refine a0j (e57 hS he (k,false,0)) rfl (by simp (disch:=omega) [go_sem]) ?_
 simp (disch:=omega) [go_sem]
end
@[go_sem] theorem f3d {xs:List Vw} {i:Nat} (h:i < xs.length):((fm eV xs).drop (i*3+1)).take 2=[slI xs[i].shape,lb xs[i].wide]:=by
 have:=congrArg (List.drop 1) (e09 h)
 rw [List.drop_take,List.drop_drop] at this
 exact this
@[go_sem] theorem g4b {xs:List In} {i:Nat} (h:i < xs.length):(fm eI xs)[i*6]? =some (li xs[i].op):=c1p (f:=eI) (k:=6) (j:=0) (fun _=>rfl) h (by omega)
@[go_sem] theorem g4c {xs:List In} {i:Nat} (h:i < xs.length):(fm eI xs)[i*6+2]? =some (slI xs[i].ins):=c1p (f:=eI) (k:=6) (fun _=>rfl) h (by omega)
@[go_sem] theorem g4d {xs:List In} {i:Nat} (h:i < xs.length):(fm eI xs)[i*6+3]? =some (slI xs[i].args):=c1p (f:=eI) (k:=6) (fun _=>rfl) h (by omega)
section
variable {G:GG} {bk:Nat->Nat×Nat} {Q:Exit->St->Prop} {st:St}
end
abbrev Dr:=Ds×Er
def dn:Ds:=⟨[],false⟩
def bad (g:Nat):Dr:=(dn,.s g)
def chk (e:Er) (r:Dr):Dr:=if e.isNil=true then r else (dn,e)
def a2r (n:Int):Bool:=decide (-128<=n)&&decide (n<=127)
def b4r (sh:List Int) (w:Bool):Dr:=chk (a1a sh) (⟨sh,w⟩,.nil)
def c81 (za zb:Int) (a b:Ds):Dr:=
 chk (a1a a.shape) (chk (a1a b.shape) (
  if a.shape.length=2/\b.shape.length=2/\a.shape[1]! =b.shape[0]! /\a.wide=false/\b.wide=false then
   (if (a2r za&&a2r zb)=true then b4r [a.shape[0]!,b.shape[1]!] true else bad 3) else bad 6))
def b5b (args:List Int) (a k:Ds):Dr:=
 chk (a1a a.shape) (chk (a1a k.shape) (
  if a.shape.length=3/\k.shape.length=4/\a.shape[2]! =k.shape[2]! /\a.wide=false/\k.wide=false then
   (if 1<=args[0]! /\args[0]! <=16/\0<=args[1]! /\args[1]! <=15/\a2r args[2]! =true then
    (if 0<=a.shape[0]! +2*args[1]! - k.shape[0]! /\0<=a.shape[1]! +2*args[1]! - k.shape[1]! then
     b4r [(a.shape[0]! +2*args[1]! - k.shape[0]!) / args[0]! +1,(a.shape[1]! +2*args[1]! - k.shape[1]!) / args[0]! +1,k.shape[3]!] true else bad 6) else bad 3) else bad 6))
def b91 (args:List Int) (a:Ds):Dr:=
 chk (a1a a.shape) (
  if a.shape.length=3 then
   (if 1<=args[0]! /\args[0]! <=16/\1<=args[1]! /\args[1]! <=16 then
    (if 0<=a.shape[0]! - args[0]! /\0<=a.shape[1]! - args[0]! then
     (⟨[(a.shape[0]! - args[0]!) / args[1]! +1,(a.shape[1]! - args[0]!) / args[1]! +1,a.shape[2]!],a.wide⟩,.nil) else bad 6) else bad 3) else bad 6)
instance:Inhabited Ds:=⟨dn⟩
def a27 (op:Int) (ins:List Ds):Ds×Bool:=
 if op=16 then (ins[0]!,decide (0 < ins[0]!.shape.length/\ins[0]!.wide=false/\ins[1]! =⟨[256],true⟩))
 else if op=17 then (if ins[0]!.shape.length=2/\ins[1]!.shape.length=1/\ins[1]!.wide=true then (⟨[ins[1]!.shape[0]!,ins[0]!.shape[1]!],ins[0]!.wide⟩,true) else (dn,false))
 else (if ins[0]!.shape.length=0 then (dn,false) else (⟨ins[0]!.shape.dropLast,true⟩,true))
def b84:List Ds->Dr->Dr
 | [],r=>r
 | d::ds,r=>chk (a1a d.shape) (b84 ds r)
def c2q (op:Int) (ins:List Ds):Dr:=b84 ins (if (a27 op ins).2=true then b4r (a27 op ins).1.shape (a27 op ins).1.wide else bad 6)
def b78 (n:Int) (w:Bool):Bool:=if w=true then decide (-2147483648<=n)&&decide (n<=2147483647) else a2r n
def a15 (op:Int) (args:List Int) (w:Bool):Bool:=
 if op=9 then decide (args[0]! <=args[1]!)&&(b78 args[0]! w&&b78 args[1]! w)
 else if op=10 then (decide (0<=args[0]!)&&decide (args[0]! <=2147483647))&&((decide (0<=args[1]!)&&decide (args[1]! <=62))&&a2r args[2]!)
 else if op=11 then a2r args[0]!
 else true
def a11 (op:Int) (w:Bool):Bool:=if op=10 then false else if op=11 then true else w
def a6y (op:Int) (args:List Int) (ins:List Ds):Dr:=b84 ins (
 if (ins.length=2/\ins[0]! ≠ins[1]!)\/(op=10/\ins[0]!.wide=false)\/(op=11/\ins[0]!.wide=true) then bad 6
 else if a15 op args ins[0]!.wide=true then (⟨ins[0]!.shape,a11 op ins[0]!.wide⟩,.nil) else bad 3)
def a50 (args:List Int) (a:Ds):Dr:=chk (a1a a.shape) (chk (a1a args) (if a2w a.shape=a2w args then (⟨args,a.wide⟩,.nil) else bad 6))
def b73 (a:Ds):Dr:=chk (a1a a.shape) (if a.shape.length=2 then (⟨[a.shape[1]!,a.shape[0]!],a.wide⟩,.nil) else bad 6)
def a3d (op:Int):Bool:=decide (4<=op)&&decide (op<=21)
def a2b (op:Int):Nat:=if op=4\/op=5\/op=6\/op=7\/op=12\/op=13\/op=16\/op=17 then 2 else if a3d op=true then 1 else 0
def a1r (op:Int):Nat:=if op=9\/op=12\/op=14\/op=15 then 2 else if op=10\/op=13 then 3 else if op=11 then 1 else 0
def opR (op:Int) (args:List Int) (ins:List Ds):Dr:=
 if a3d op=true then
  if ins.length=a2b op/\(op=18\/args.length=a1r op) then
   if op=12 then c81 args[0]! args[1]! ins[0]! ins[1]!
   else if op=13 then b5b args ins[0]! ins[1]!
   else if op=14\/op=15 then b91 args ins[0]!
   else if op=16\/op=17\/op=19\/op=20 then c2q op ins
   else if op=18 then a50 args ins[0]!
   else if op=21 then b73 ins[0]!
   else a6y op args ins
  else bad 6
 else bad 5
def atE (k:Int):Er->Er
 | .nil=> .nil
 | .s g=> .at k (.s g)
 | .at _ e=> .at k e
def orE (a b:Er):Er:=if a.isNil=true then b else a
def b5y {α:Type} (f:α->Er):List α->Int->Er
 | [],_=> .nil
 | x::xs,k=>if (f x).isNil=true then b5y f xs (k+1) else atE k (f x)
def e63 (size:Int) (v:Vw):Er:=if (a1a v.shape).isNil=true then (if 0<=v.off/\v.off<=size/\b81 v.shape v.wide<=size - v.off then .nil else .s 3) else a1a v.shape
def tE (t:Tn):Er:=a5s t.shape t.wide t.data
def dE (d:Ds):Er:=a1a d.shape
def d2k (p:Pl) (k:Int):Bool:=decide (0<=k)&&decide (k < (p.views.length:Int))
def a6t (p:Pl):Er:=
 if 128 < p.views.length\/64 < p.consts.length\/8 < p.weights.length\/2048 < p.code.length then .s 2
 else if p.size < 0\/65536 < p.size then .s 3
 else orE (b5y (e63 p.size) p.views 0) (orE (b5y tE p.consts 0) (orE (b5y dE p.weights 0) (if (d2k p p.input&&d2k p p.output)=true then .nil else .s 3)))
instance:Inhabited Vw:=⟨⟨0,[],false⟩⟩
instance:Inhabited Tn:=⟨⟨[],false,[]⟩⟩
instance:Inhabited In:=⟨⟨0,0,[],[],0,0⟩⟩
def Vw.ds (v:Vw):Ds:=⟨v.shape,v.wide⟩
def Tn.ds (v:Tn):Ds:=⟨v.shape,v.wide⟩
def b59:IC:=(.seq (.reg [oo 2 (.asg (.c (.bool false)))]) (.seq (.reg [om 3 0,
 oo 4 (.bin .geq 3 0 (.t 3) (.n 4) 3),
 om 5 4,
 og 6 (.mv (.t 0)) 2 5 true,
 og 7 (.bin .leq 3 0 (.t 6) (.n 21) 3) 2 5 true,
 oo 8 (.pick (.t 5) (.t 7) (.c (.bool false))),
 oo 2 (.asg (.t 8))]) .ret))
abbrev c34:Nat:=39
theorem b7p:fnC pg 39 9 [(.tmp 2)] b59:=a0w Go.Proofs.Tryz.f39 [(.tmp 2)] (by kernel_rfl)
@[go_sem] theorem d2q:fnB pg 39=true:=by kernel_rfl
def b7o:IC:=(.seq (.reg [oo 2 (.asg (.n 0))]) (.seq (.seq (.reg [om 3 0]) (.block 0 (.seq (.seq (.reg [oo 5 (.bin .eql 3 0 (.t 3) (.n 4) 3),
 oo 4 (.asg (.t 5))]) (.cond (.t 4) .skip (.seq (.reg [oo 6 (.bin .eql 3 0 (.t 3) (.n 5) 3),
 oo 4 (.asg (.t 6))]) (.cond (.t 4) .skip (.seq (.reg [oo 7 (.bin .eql 3 0 (.t 3) (.n 6) 3),
 oo 4 (.asg (.t 7))]) (.cond (.t 4) .skip (.seq (.reg [oo 8 (.bin .eql 3 0 (.t 3) (.n 7) 3),
 oo 4 (.asg (.t 8))]) (.cond (.t 4) .skip (.seq (.reg [oo 9 (.bin .eql 3 0 (.t 3) (.n 12) 3),
 oo 4 (.asg (.t 9))]) (.cond (.t 4) .skip (.seq (.reg [oo 10 (.bin .eql 3 0 (.t 3) (.n 13) 3),
 oo 4 (.asg (.t 10))]) (.cond (.t 4) .skip (.seq (.reg [oo 11 (.bin .eql 3 0 (.t 3) (.n 16) 3),
 oo 4 (.asg (.t 11))]) (.cond (.t 4) .skip (.reg [oo 12 (.bin .eql 3 0 (.t 3) (.n 17) 3),
 oo 4 (.asg (.t 12))]))))))))))))))) (.cond (.t 4) (.seq (.reg [oo 2 (.asg (.n 2))]) .ret) .skip)))) (.seq (.seq (.reg [om 13 0,
 oc 14 39 [(false,(.t 13))] [3]]) (.cond (.t 14) (.seq (.reg [oo 2 (.asg (.n 1))]) .ret) .skip)) (.seq (.reg [oo 2 (.asg (.n 0))]) .ret))))
abbrev c9f:Nat:=56
theorem c2d:fnC pg 56 15 [(.tmp 2)] b7o:=a0w Go.Proofs.Tryz.f56 [(.tmp 2)] (by kernel_rfl)
@[go_sem] theorem d8h:fnB pg 56=true:=by kernel_rfl
def b4d:IC:=(.seq (.reg [oo 2 (.asg (.n 0))]) (.seq (.seq (.reg [om 3 0]) (.block 0 (.seq (.seq (.reg [oo 5 (.bin .eql 3 0 (.t 3) (.n 9) 3),
 oo 4 (.asg (.t 5))]) (.cond (.t 4) .skip (.seq (.reg [oo 6 (.bin .eql 3 0 (.t 3) (.n 12) 3),
 oo 4 (.asg (.t 6))]) (.cond (.t 4) .skip (.seq (.reg [oo 7 (.bin .eql 3 0 (.t 3) (.n 14) 3),
 oo 4 (.asg (.t 7))]) (.cond (.t 4) .skip (.reg [oo 8 (.bin .eql 3 0 (.t 3) (.n 15) 3),
 oo 4 (.asg (.t 8))]))))))) (.cond (.t 4) (.seq (.reg [oo 2 (.asg (.n 2))]) .ret) (.seq (.seq (.reg [oo 10 (.bin .eql 3 0 (.t 3) (.n 10) 3),
 oo 9 (.asg (.t 10))]) (.cond (.t 9) .skip (.reg [oo 11 (.bin .eql 3 0 (.t 3) (.n 13) 3),
 oo 9 (.asg (.t 11))]))) (.cond (.t 9) (.seq (.reg [oo 2 (.asg (.n 3))]) .ret) (.seq (.reg [oo 13 (.bin .eql 3 0 (.t 3) (.n 11) 3),
 oo 12 (.asg (.t 13))]) (.cond (.t 12) (.seq (.reg [oo 2 (.asg (.n 1))]) .ret) .skip)))))))) (.seq (.reg [oo 2 (.asg (.n 0))]) .ret)))
abbrev c5w:Nat:=57
theorem b9v:fnC pg 57 14 [(.tmp 2)] b4d:=a0w Go.Proofs.Tryz.f57 [(.tmp 2)] (by kernel_rfl)
@[go_sem] theorem d45:fnB pg 57=true:=by kernel_rfl
def b4e:IC:=(.seq (.reg [oo 6 (.alloc 26 [.own 1 0 [],.lit (.bool false)]),
 oo 7 (.asg (.c .nilIface))]) (.seq (.seq (.reg [om 8 0,
 oc 9 39 [(false,(.t 8))] [3],
 oo 10 (.un .not 4 (.t 9))]) (.cond (.t 10) (.seq (.draw [oo 11 (.build 26 [.sl 0 [],.lit (.bool false)] []),
 oo 12 (.load 38 none (.g 4)),
 ov (.store 26 2 (.t 6) (.t 11)),
 oo 7 (.asg (.t 12))] [[],[],[0,0],[1,2,0,1,2]]) .ret) .skip)) (.seq (.seq (.reg [om 13 2,
 oo 14 (.len 54 false (.t 13)),
 om 15 0,
 oc 16 56 [(false,(.t 15))] [3],
 oo 17 (.bin .neq 3 0 (.t 14) (.t 16) 3),
 om 18 17,
 og 19 (.mv (.t 0)) 5 18 false,
 og 20 (.bin .neq 3 0 (.t 19) (.n 18) 3) 5 18 false,
 og 21 (.mv (.t 20)) 5 18 false,
 og 22 (.mv (.t 1)) 8 21 true,
 og 23 (.len 22 false (.t 22)) 8 21 true,
 og 24 (.mv (.t 0)) 8 21 true,
 ⟨(some 25),.call 57 [(false,(.t 24))] [3],(some (8,21,true))⟩,
 og 26 (.bin .neq 3 0 (.t 23) (.t 25) 3) 8 21 true,
 og 27 (.pick (.t 21) (.t 26) (.c (.bool false))) 5 18 false,
 oo 28 (.pick (.t 18) (.c (.bool true)) (.t 27))]) (.cond (.t 28) (.seq (.draw [oo 29 (.build 26 [.sl 0 [],.lit (.bool false)] []),
 oo 30 (.load 38 none (.g 0)),
 ov (.store 26 2 (.t 6) (.t 29)),
 oo 7 (.asg (.t 30))] [[],[],[0,0],[1,2,0,1,2]]) .ret) .skip)) (.seq (.seq (.reg [om 31 0]) (.block 0 (.seq (.reg [oo 33 (.bin .eql 3 0 (.t 31) (.n 12) 3),
 oo 32 (.asg (.t 33))]) (.cond (.t 32) (.seq (.draw [om 34 1,
 oo 35 (.iaddr 22 1 (.t 34) (.n 0)),
 oo 36 (.load 3 none (.t 35)),
 om 37 1,
 oo 38 (.iaddr 22 1 (.t 37) (.n 1)),
 oo 39 (.load 3 none (.t 38)),
 om 40 2,
 oo 41 (.iaddr 54 2 (.t 40) (.n 0)),
 oo 42 (.load 26 (some 2) (.t 41)),
 om 43 2,
 oo 44 (.iaddr 54 2 (.t 43) (.n 1)),
 oo 45 (.load 26 (some 2) (.t 44)),
 oc 46 58 [(false,(.t 36)),(false,(.t 39)),(false,(.t 42)),(false,(.t 45))] [3,3,26,26],
 oo 47 (.ext (.t 46) 0),
 oo 48 (.ext (.t 46) 1),
 ov (.store 26 2 (.t 6) (.t 47)),
 oo 7 (.asg (.t 48))] [[],[0],[1],[],[3],[4],[],[6],[7],[],[9],[10],[2,5,8,11],[12],[12],[13,12,0,1,2,3,4,5,6,7,8,9,10,11,12,13,14],[14,15,0,1,2,3,4,5,6,7,8,9,10,11,12,13,14,15]]) .ret) (.seq (.reg [oo 50 (.bin .eql 3 0 (.t 31) (.n 13) 3),
 oo 49 (.asg (.t 50))]) (.cond (.t 49) (.seq (.draw [om 51 1,
 om 52 2,
 oo 53 (.iaddr 54 2 (.t 52) (.n 0)),
 oo 54 (.load 26 (some 2) (.t 53)),
 om 55 2,
 oo 56 (.iaddr 54 2 (.t 55) (.n 1)),
 oo 57 (.load 26 (some 2) (.t 56)),
 oc 58 59 [(false,(.t 51)),(false,(.t 54)),(false,(.t 57))] [22,26,26],
 oo 59 (.ext (.t 58) 0),
 oo 60 (.ext (.t 58) 1),
 ov (.store 26 2 (.t 6) (.t 59)),
 oo 7 (.asg (.t 60))] [[],[],[1],[2],[],[4],[5],[0,3,6],[7],[7],[8,7,0,1,2,3,4,5,6,7,8,9],[9,10,0,1,2,3,4,5,6,7,8,9,10]]) .ret) (.seq (.seq (.reg [oo 62 (.bin .eql 3 0 (.t 31) (.n 14) 3),
 oo 61 (.asg (.t 62))]) (.cond (.t 61) .skip (.reg [oo 63 (.bin .eql 3 0 (.t 31) (.n 15) 3),
 oo 61 (.asg (.t 63))]))) (.cond (.t 61) (.seq (.reg [om 64 1,
 om 65 2,
 oo 66 (.iaddr 54 2 (.t 65) (.n 0)),
 oo 67 (.load 26 (some 2) (.t 66)),
 oc 68 60 [(false,(.t 64)),(false,(.t 67))] [22,26],
 oo 69 (.ext (.t 68) 0),
 oo 70 (.ext (.t 68) 1),
 ov (.store 26 2 (.t 6) (.t 69)),
 oo 7 (.asg (.t 70))]) .ret) (.seq (.seq (.reg [oo 72 (.bin .eql 3 0 (.t 31) (.n 16) 3),
 oo 71 (.asg (.t 72))]) (.cond (.t 71) .skip (.seq (.reg [oo 73 (.bin .eql 3 0 (.t 31) (.n 19) 3),
 oo 71 (.asg (.t 73))]) (.cond (.t 71) .skip (.seq (.reg [oo 74 (.bin .eql 3 0 (.t 31) (.n 20) 3),
 oo 71 (.asg (.t 74))]) (.cond (.t 71) .skip (.reg [oo 75 (.bin .eql 3 0 (.t 31) (.n 17) 3),
 oo 71 (.asg (.t 75))]))))))) (.cond (.t 71) (.seq (.reg [om 76 0,
 om 77 2,
 oc 78 61 [(false,(.t 76)),(false,(.t 77))] [3,54],
 oo 79 (.ext (.t 78) 0),
 oo 80 (.ext (.t 78) 1),
 ov (.store 26 2 (.t 6) (.t 79)),
 oo 7 (.asg (.t 80))]) .ret) (.seq (.reg [oo 82 (.bin .eql 3 0 (.t 31) (.n 18) 3),
 oo 81 (.asg (.t 82))]) (.cond (.t 81) (.seq (.reg [om 83 1,
 om 84 2,
 oo 85 (.iaddr 54 2 (.t 84) (.n 0)),
 oo 86 (.load 26 (some 2) (.t 85)),
 oc 87 62 [(false,(.t 83)),(false,(.t 86))] [22,26],
 oo 88 (.ext (.t 87) 0),
 oo 89 (.ext (.t 87) 1),
 ov (.store 26 2 (.t 6) (.t 88)),
 oo 7 (.asg (.t 89))]) .ret) (.seq (.reg [oo 91 (.bin .eql 3 0 (.t 31) (.n 21) 3),
 oo 90 (.asg (.t 91))]) (.cond (.t 90) (.seq (.reg [om 92 2,
 oo 93 (.iaddr 54 2 (.t 92) (.n 0)),
 oo 94 (.load 26 (some 2) (.t 93)),
 oc 95 63 [(false,(.t 94))] [26],
 oo 96 (.ext (.t 95) 0),
 oo 97 (.ext (.t 95) 1),
 ov (.store 26 2 (.t 6) (.t 96)),
 oo 7 (.asg (.t 97))]) .ret) .skip)))))))))))))) (.seq (.reg [om 98 0,
 om 99 1,
 om 100 2,
 oc 101 64 [(false,(.t 98)),(false,(.t 99)),(false,(.t 100))] [3,22,54],
 oo 102 (.ext (.t 101) 0),
 oo 103 (.ext (.t 101) 1),
 ov (.store 26 2 (.t 6) (.t 102)),
 oo 7 (.asg (.t 103))]) .ret)))))
abbrev c0r:Nat:=40
theorem b5f:fnC pg 40 104 [(.cells 6 2),(.tmp 7)] b4e:=a0w Go.Proofs.Tryz.f40 [(.cell 6 26),(.tmp 7)] (by kernel_rfl)
@[go_sem] theorem d09:fnB pg 40=true:=by kernel_rfl
def a33:IC:=(.seq (.reg [oo 20 (.bin .lss 3 0 (.t 19) (.t 18) 3)]) (.seq (.cond (.t 20) .skip (.exit 0)) (.seq (.block 1 (.seq (.reg [oo 21 (.iaddr 54 2 (.t 17) (.t 19)),
 oo 22 (.load 26 (some 2) (.t 21)),
 oo 8 (.alloc 26 [.own 1 0 [],.lit (.bool false)]),
 ov (.store 26 2 (.t 8) (.t 22))]) (.seq (.reg [oo 23 (.load 26 (some 2) (.t 8)),
 oc 24 44 [(false,(.t 23))] [26],
 oo 9 (.asg (.t 24))]) (.seq (.reg [om 25 9,
 oo 26 (.bin .neq 38 2 (.t 25) (.c .nilIface) 38)]) (.cond (.t 26) (.seq (.reg [oo 27 (.build 26 [.sl 0 [],.lit (.bool false)] []),
 om 28 9,
 ov (.store 26 2 (.t 4) (.t 27)),
 oo 5 (.asg (.t 28))]) .ret) .skip))))) (.reg [oo 29 (.bin .add 3 0 (.t 19) (.n 1) 3),
 om 19 29]))))
def b2e:IC:=(.seq (.reg [oo 3 (.box 26 2 (.t 1)),
 oo 4 (.alloc 26 [.own 1 0 [],.lit (.bool false)]),
 oo 5 (.asg (.c .nilIface))]) (.seq (.draw [om 10 0,
 oc 11 30 [(false,(.t 10))] [22],
 oo 12 (.faddr 26 1 (.t 3) 1),
 oo 13 (.load 4 none (.t 12)),
 oo 14 (.build 26 [.own 1 0 [],.lit (.bool false)] [(0,0,1,(.t 11)),(1,1,1,(.t 13))]),
 oo 6 (.alloc 26 [.own 1 0 [],.lit (.bool false)]),
 ov (.store 26 2 (.t 6) (.t 14))] [[],[0],[],[2],[1,3],[],[5,4,1,0,1,2,3,4,5]]) (.seq (.seq (.reg [oo 15 (.load 26 (some 2) (.t 3)),
 oo 16 (.load 26 (some 2) (.t 6)),
 oo 17 (.bslice 54 26 2 2 [.own 1 0 [],.lit (.bool false)] [(0,(.t 15)),(1,(.t 16))]),
 oo 18 (.len 54 false (.t 17)),
 oo 19 (.mv (.n 0))]) (.block 0 (.loop a33))) (.seq (.seq (.reg [oo 30 (.faddr 26 0 (.t 3) 0),
 oo 31 (.load 22 none (.t 30)),
 oc 32 33 [(false,(.t 31))] [22],
 om 33 0,
 oc 34 33 [(false,(.t 33))] [22],
 oo 35 (.bin .neq 3 0 (.t 32) (.t 34) 3)]) (.cond (.t 35) (.seq (.draw [oo 36 (.build 26 [.sl 0 [],.lit (.bool false)] []),
 oo 37 (.load 38 none (.g 0)),
 ov (.store 26 2 (.t 4) (.t 36)),
 oo 5 (.asg (.t 37))] [[],[],[0,0],[1,2,0,1,2]]) .ret) .skip)) (.seq (.reg [oo 38 (.load 26 (some 2) (.t 6)),
 ov (.store 26 2 (.t 4) (.t 38)),
 oo 5 (.asg (.c .nilIface))]) .ret)))))
abbrev b8i:Nat:=62
theorem b4f:fnC pg 62 39 [(.cells 4 2),(.tmp 5)] b2e:=a0w Go.Proofs.Tryz.f62 [(.cell 4 26),(.tmp 5)] (by kernel_rfl)
@[go_sem] theorem c86:fnB pg 62=true:=by kernel_rfl
def b0s:IC:=(.seq (.reg [oo 1 (.box 26 2 (.t 0)),
 oo 2 (.alloc 26 [.own 1 0 [],.lit (.bool false)]),
 oo 3 (.asg (.c .nilIface))]) (.seq (.seq (.reg [oo 5 (.load 26 (some 2) (.t 1)),
 oc 6 44 [(false,(.t 5))] [26],
 oo 4 (.asg (.t 6))]) (.seq (.reg [om 7 4,
 oo 8 (.bin .neq 38 2 (.t 7) (.c .nilIface) 38)]) (.cond (.t 8) (.seq (.reg [oo 9 (.build 26 [.sl 0 [],.lit (.bool false)] []),
 om 10 4,
 ov (.store 26 2 (.t 2) (.t 9)),
 oo 3 (.asg (.t 10))]) .ret) .skip))) (.seq (.seq (.reg [oo 11 (.faddr 26 0 (.t 1) 0),
 oo 12 (.load 22 none (.t 11)),
 oo 13 (.len 22 false (.t 12)),
 oo 14 (.bin .neq 3 0 (.t 13) (.n 2) 3)]) (.cond (.t 14) (.seq (.draw [oo 15 (.build 26 [.sl 0 [],.lit (.bool false)] []),
 oo 16 (.load 38 none (.g 0)),
 ov (.store 26 2 (.t 2) (.t 15)),
 oo 3 (.asg (.t 16))] [[],[],[0,0],[1,2,0,1,2]]) .ret) .skip)) (.seq (.draw [oo 17 (.faddr 26 0 (.t 1) 0),
 oo 18 (.load 22 none (.t 17)),
 oo 19 (.iaddr 22 1 (.t 18) (.n 1)),
 oo 20 (.load 3 none (.t 19)),
 oo 21 (.faddr 26 0 (.t 1) 0),
 oo 22 (.load 22 none (.t 21)),
 oo 23 (.iaddr 22 1 (.t 22) (.n 0)),
 oo 24 (.load 3 none (.t 23)),
 oo 25 (.bslice 22 3 1 2 [.lit (.int .i64 0)] [(0,(.t 20)),(1,(.t 24))]),
 oo 26 (.faddr 26 1 (.t 1) 1),
 oo 27 (.load 4 none (.t 26)),
 oo 28 (.build 26 [.own 1 0 [],.lit (.bool false)] [(0,0,1,(.t 25)),(1,1,1,(.t 27))]),
 ov (.store 26 2 (.t 2) (.t 28)),
 oo 3 (.asg (.c .nilIface))] [[],[0],[1],[2],[],[4],[5],[6],[3,7],[],[9],[8,10],[11,0,1,2,3,4,5,6,7,8,9,10,11],[12,0,1,2,3,4,5,6,7,8,9,10,11,12]]) .ret))))
abbrev c5x:Nat:=63
theorem a78:fnC pg 63 29 [(.cells 2 2),(.tmp 3)] b0s:=a0w Go.Proofs.Tryz.f63 [(.cell 2 26),(.tmp 3)] (by kernel_rfl)
@[go_sem] theorem d46:fnB pg 63=true:=by kernel_rfl
def a32:IC:=(.seq (.reg [oo 20 (.bin .lss 3 0 (.t 19) (.t 18) 3)]) (.seq (.cond (.t 20) .skip (.exit 0)) (.seq (.block 1 (.seq (.reg [oo 21 (.iaddr 54 2 (.t 17) (.t 19)),
 oo 22 (.load 26 (some 2) (.t 21)),
 oo 11 (.alloc 26 [.own 1 0 [],.lit (.bool false)]),
 ov (.store 26 2 (.t 11) (.t 22))]) (.seq (.reg [oo 23 (.load 26 (some 2) (.t 11)),
 oc 24 44 [(false,(.t 23))] [26],
 oo 12 (.asg (.t 24))]) (.seq (.reg [om 25 12,
 oo 26 (.bin .neq 38 2 (.t 25) (.c .nilIface) 38)]) (.cond (.t 26) (.seq (.reg [oo 27 (.build 26 [.sl 0 [],.lit (.bool false)] []),
 om 28 12,
 ov (.store 26 2 (.t 8) (.t 27)),
 oo 9 (.asg (.t 28))]) .ret) .skip))))) (.reg [oo 29 (.bin .add 3 0 (.t 19) (.n 1) 3),
 om 19 29]))))
def b17:IC:=(.seq (.reg [oo 6 (.box 26 2 (.t 2)),
 oo 7 (.box 26 2 (.t 3)),
 oo 8 (.alloc 26 [.own 1 0 [],.lit (.bool false)]),
 oo 9 (.asg (.c .nilIface))]) (.seq (.seq (.reg [oo 15 (.load 26 (some 2) (.t 6)),
 oo 16 (.load 26 (some 2) (.t 7)),
 oo 17 (.bslice 54 26 2 2 [.own 1 0 [],.lit (.bool false)] [(0,(.t 15)),(1,(.t 16))]),
 oo 18 (.len 54 false (.t 17)),
 oo 19 (.mv (.n 0))]) (.block 0 (.loop a32))) (.seq (.seq (.draw [oo 30 (.faddr 26 0 (.t 6) 0),
 oo 31 (.load 22 none (.t 30)),
 oo 32 (.len 22 false (.t 31)),
 oo 33 (.bin .neq 3 0 (.t 32) (.n 2) 3),
 om 34 33,
 og 35 (.faddr 26 0 (.t 7) 0) 4 34 false,
 og 36 (.load 22 none (.t 35)) 4 34 false,
 og 37 (.len 22 false (.t 36)) 4 34 false,
 og 38 (.bin .neq 3 0 (.t 37) (.n 2) 3) 4 34 false,
 oo 39 (.pick (.t 34) (.c (.bool true)) (.t 38)),
 om 40 39,
 og 41 (.faddr 26 0 (.t 6) 0) 10 40 false,
 og 42 (.load 22 none (.t 41)) 10 40 false,
 og 43 (.iaddr 22 1 (.t 42) (.n 1)) 10 40 false,
 og 44 (.load 3 none (.t 43)) 10 40 false,
 og 45 (.faddr 26 0 (.t 7) 0) 10 40 false,
 og 46 (.load 22 none (.t 45)) 10 40 false,
 og 47 (.iaddr 22 1 (.t 46) (.n 0)) 10 40 false,
 og 48 (.load 3 none (.t 47)) 10 40 false,
 og 49 (.bin .neq 3 0 (.t 44) (.t 48) 3) 10 40 false,
 oo 50 (.pick (.t 40) (.c (.bool true)) (.t 49)),
 om 51 50,
 og 52 (.faddr 26 1 (.t 6) 1) 21 51 false,
 og 53 (.load 4 none (.t 52)) 21 51 false,
 oo 54 (.pick (.t 51) (.c (.bool true)) (.t 53)),
 om 55 54,
 og 56 (.faddr 26 1 (.t 7) 1) 25 55 false,
 og 57 (.load 4 none (.t 56)) 25 55 false,
 oo 58 (.pick (.t 55) (.c (.bool true)) (.t 57))] [[],[0],[1],[2],[3],[4],[5,4],[6,4],[7,4],[4,8],[9,4],[10],[11,10],[12,10],[13,10],[10],[15,10],[16,10],[17,10],[14,18,10],[10,19],[20,10],[21],[22,21],[21,23],[24,21],[25],[26,25],[25,27]]) (.cond (.t 58) (.seq (.draw [oo 59 (.build 26 [.sl 0 [],.lit (.bool false)] []),
 oo 60 (.load 38 none (.g 0)),
 ov (.store 26 2 (.t 8) (.t 59)),
 oo 9 (.asg (.t 60))] [[],[],[0,0],[1,2,0,1,2]]) .ret) .skip)) (.seq (.seq (.reg [om 61 0,
 oc 62 74 [(false,(.t 61))] [3],
 oo 63 (.un .not 4 (.t 62)),
 om 64 63,
 og 65 (.mv (.t 1)) 3 64 false,
 ⟨(some 66),.call 74 [(false,(.t 65))] [3],(some (3,64,false))⟩,
 og 67 (.un .not 4 (.t 66)) 3 64 false,
 oo 68 (.pick (.t 64) (.c (.bool true)) (.t 67))]) (.cond (.t 68) (.seq (.draw [oo 69 (.build 26 [.sl 0 [],.lit (.bool false)] []),
 oo 70 (.load 38 none (.g 5)),
 ov (.store 26 2 (.t 8) (.t 69)),
 oo 9 (.asg (.t 70))] [[],[],[0,0],[1,2,0,1,2]]) .ret) .skip)) (.seq (.draw [oo 71 (.faddr 26 0 (.t 6) 0),
 oo 72 (.load 22 none (.t 71)),
 oo 73 (.iaddr 22 1 (.t 72) (.n 0)),
 oo 74 (.load 3 none (.t 73)),
 oo 75 (.faddr 26 0 (.t 7) 0),
 oo 76 (.load 22 none (.t 75)),
 oo 77 (.iaddr 22 1 (.t 76) (.n 1)),
 oo 78 (.load 3 none (.t 77)),
 oo 79 (.bslice 22 3 1 2 [.lit (.int .i64 0)] [(0,(.t 74)),(1,(.t 78))]),
 oo 80 (.build 26 [.own 1 0 [],.lit (.bool false)] [(0,0,1,(.t 79)),(1,1,1,(.c (.bool true)))]),
 oo 13 (.alloc 26 [.own 1 0 [],.lit (.bool false)]),
 ov (.store 26 2 (.t 13) (.t 80))] [[],[0],[1],[2],[],[4],[5],[6],[3,7],[8],[],[10,9,0,1,2,3,4,5,6,7,8,9,10]]) (.seq (.seq (.reg [oo 81 (.load 26 (some 2) (.t 13)),
 oc 82 44 [(false,(.t 81))] [26],
 oo 14 (.asg (.t 82))]) (.seq (.reg [om 83 14,
 oo 84 (.bin .neq 38 2 (.t 83) (.c .nilIface) 38)]) (.cond (.t 84) (.seq (.reg [oo 85 (.build 26 [.sl 0 [],.lit (.bool false)] []),
 om 86 14,
 ov (.store 26 2 (.t 8) (.t 85)),
 oo 9 (.asg (.t 86))]) .ret) .skip))) (.seq (.reg [oo 87 (.load 26 (some 2) (.t 13)),
 ov (.store 26 2 (.t 8) (.t 87)),
 oo 9 (.asg (.c .nilIface))]) .ret)))))))
abbrev b8g:Nat:=58
theorem b37:fnC pg 58 88 [(.cells 8 2),(.tmp 9)] b17:=a0w Go.Proofs.Tryz.f58 [(.cell 8 26),(.tmp 9)] (by kernel_rfl)
@[go_sem] theorem c82:fnB pg 58=true:=by kernel_rfl
def a3f:IC:=(.seq (.reg [oo 28 (.bin .lss 3 0 (.t 27) (.t 26) 3)]) (.seq (.cond (.t 28) .skip (.exit 0)) (.seq (.block 1 (.seq (.reg [oo 29 (.iaddr 54 2 (.t 25) (.t 27)),
 oo 30 (.load 26 (some 2) (.t 29)),
 oo 9 (.alloc 26 [.own 1 0 [],.lit (.bool false)]),
 ov (.store 26 2 (.t 9) (.t 30))]) (.seq (.reg [oo 31 (.load 26 (some 2) (.t 9)),
 oc 32 44 [(false,(.t 31))] [26],
 oo 10 (.asg (.t 32))]) (.seq (.reg [om 33 10,
 oo 34 (.bin .neq 38 2 (.t 33) (.c .nilIface) 38)]) (.cond (.t 34) (.seq (.reg [oo 35 (.build 26 [.sl 0 [],.lit (.bool false)] []),
 om 36 10,
 ov (.store 26 2 (.t 6) (.t 35)),
 oo 7 (.asg (.t 36))]) .ret) .skip))))) (.reg [oo 37 (.bin .add 3 0 (.t 27) (.n 1) 3),
 om 27 37]))))
def a98:IC:=(.seq (.reg [oo 4 (.box 26 2 (.t 1)),
 oo 5 (.box 26 2 (.t 2)),
 oo 6 (.alloc 26 [.own 1 0 [],.lit (.bool false)]),
 oo 7 (.asg (.c .nilIface))]) (.seq (.seq (.reg [om 18 0,
 oo 19 (.len 22 false (.t 18)),
 oo 20 (.bin .neq 3 0 (.t 19) (.n 3) 3)]) (.cond (.t 20) (.seq (.draw [oo 21 (.build 26 [.sl 0 [],.lit (.bool false)] []),
 oo 22 (.load 38 none (.g 0)),
 ov (.store 26 2 (.t 6) (.t 21)),
 oo 7 (.asg (.t 22))] [[],[],[0,0],[1,2,0,1,2]]) .ret) .skip)) (.seq (.seq (.reg [oo 23 (.load 26 (some 2) (.t 4)),
 oo 24 (.load 26 (some 2) (.t 5)),
 oo 25 (.bslice 54 26 2 2 [.own 1 0 [],.lit (.bool false)] [(0,(.t 23)),(1,(.t 24))]),
 oo 26 (.len 54 false (.t 25)),
 oo 27 (.mv (.n 0))]) (.block 0 (.loop a3f))) (.seq (.seq (.draw [oo 38 (.faddr 26 0 (.t 4) 0),
 oo 39 (.load 22 none (.t 38)),
 oo 40 (.len 22 false (.t 39)),
 oo 41 (.bin .neq 3 0 (.t 40) (.n 3) 3),
 om 42 41,
 og 43 (.faddr 26 0 (.t 5) 0) 4 42 false,
 og 44 (.load 22 none (.t 43)) 4 42 false,
 og 45 (.len 22 false (.t 44)) 4 42 false,
 og 46 (.bin .neq 3 0 (.t 45) (.n 4) 3) 4 42 false,
 oo 47 (.pick (.t 42) (.c (.bool true)) (.t 46)),
 om 48 47,
 og 49 (.faddr 26 0 (.t 4) 0) 10 48 false,
 og 50 (.load 22 none (.t 49)) 10 48 false,
 og 51 (.iaddr 22 1 (.t 50) (.n 2)) 10 48 false,
 og 52 (.load 3 none (.t 51)) 10 48 false,
 og 53 (.faddr 26 0 (.t 5) 0) 10 48 false,
 og 54 (.load 22 none (.t 53)) 10 48 false,
 og 55 (.iaddr 22 1 (.t 54) (.n 2)) 10 48 false,
 og 56 (.load 3 none (.t 55)) 10 48 false,
 og 57 (.bin .neq 3 0 (.t 52) (.t 56) 3) 10 48 false,
 oo 58 (.pick (.t 48) (.c (.bool true)) (.t 57)),
 om 59 58,
 og 60 (.faddr 26 1 (.t 4) 1) 21 59 false,
 og 61 (.load 4 none (.t 60)) 21 59 false,
 oo 62 (.pick (.t 59) (.c (.bool true)) (.t 61)),
 om 63 62,
 og 64 (.faddr 26 1 (.t 5) 1) 25 63 false,
 og 65 (.load 4 none (.t 64)) 25 63 false,
 oo 66 (.pick (.t 63) (.c (.bool true)) (.t 65))] [[],[0],[1],[2],[3],[4],[5,4],[6,4],[7,4],[4,8],[9,4],[10],[11,10],[12,10],[13,10],[10],[15,10],[16,10],[17,10],[14,18,10],[10,19],[20,10],[21],[22,21],[21,23],[24,21],[25],[26,25],[25,27]]) (.cond (.t 66) (.seq (.draw [oo 67 (.build 26 [.sl 0 [],.lit (.bool false)] []),
 oo 68 (.load 38 none (.g 0)),
 ov (.store 26 2 (.t 6) (.t 67)),
 oo 7 (.asg (.t 68))] [[],[],[0,0],[1,2,0,1,2]]) .ret) .skip)) (.seq (.draw [om 69 0,
 oo 70 (.iaddr 22 1 (.t 69) (.n 0)),
 oo 71 (.load 3 none (.t 70)),
 om 72 0,
 oo 73 (.iaddr 22 1 (.t 72) (.n 1)),
 oo 74 (.load 3 none (.t 73)),
 om 75 0,
 oo 76 (.iaddr 22 1 (.t 75) (.n 2)),
 oo 77 (.load 3 none (.t 76)),
 oo 11 (.asg (.t 71)),
 oo 12 (.asg (.t 74)),
 oo 13 (.asg (.t 77))] [[],[0],[1],[],[3],[4],[],[6],[7],[2,0,1,2],[5,9,0,1,2,3,4,5,9],[8,10,0,1,2,3,4,5,6,7,8,9,10]]) (.seq (.seq (.reg [om 78 11,
 oo 79 (.bin .lss 3 0 (.t 78) (.n 1) 3),
 om 80 79,
 og 81 (.mv (.t 11)) 2 80 false,
 og 82 (.bin .gtr 3 0 (.t 81) (.n 16) 3) 2 80 false,
 oo 83 (.pick (.t 80) (.c (.bool true)) (.t 82)),
 om 84 83,
 og 85 (.mv (.t 12)) 6 84 false,
 og 86 (.bin .lss 3 0 (.t 85) (.n 0) 3) 6 84 false,
 oo 87 (.pick (.t 84) (.c (.bool true)) (.t 86)),
 om 88 87,
 og 89 (.mv (.t 12)) 10 88 false,
 og 90 (.bin .gtr 3 0 (.t 89) (.n 15) 3) 10 88 false,
 oo 91 (.pick (.t 88) (.c (.bool true)) (.t 90)),
 om 92 91,
 og 93 (.mv (.t 13)) 14 92 false,
 ⟨(some 94),.call 75 [(false,(.t 93))] [3],(some (14,92,false))⟩,
 og 95 (.mv (.t 13)) 14 92 false,
 og 96 (.bin .neq 3 0 (.t 94) (.t 95) 3) 14 92 false,
 oo 97 (.pick (.t 92) (.c (.bool true)) (.t 96))]) (.cond (.t 97) (.seq (.draw [oo 98 (.build 26 [.sl 0 [],.lit (.bool false)] []),
 oo 99 (.load 38 none (.g 5)),
 ov (.store 26 2 (.t 6) (.t 98)),
 oo 7 (.asg (.t 99))] [[],[],[0,0],[1,2,0,1,2]]) .ret) .skip)) (.seq (.draw [oo 100 (.faddr 26 0 (.t 4) 0),
 oo 101 (.load 22 none (.t 100)),
 oo 102 (.iaddr 22 1 (.t 101) (.n 0)),
 oo 103 (.load 3 none (.t 102)),
 om 104 12,
 oo 105 (.bin .mul 3 0 (.n 2) (.t 104) 3),
 oo 106 (.bin .add 3 0 (.t 103) (.t 105) 3),
 oo 107 (.faddr 26 0 (.t 5) 0),
 oo 108 (.load 22 none (.t 107)),
 oo 109 (.iaddr 22 1 (.t 108) (.n 0)),
 oo 110 (.load 3 none (.t 109)),
 oo 111 (.bin .sub 3 0 (.t 106) (.t 110) 3),
 oo 112 (.faddr 26 0 (.t 4) 0),
 oo 113 (.load 22 none (.t 112)),
 oo 114 (.iaddr 22 1 (.t 113) (.n 1)),
 oo 115 (.load 3 none (.t 114)),
 om 116 12,
 oo 117 (.bin .mul 3 0 (.n 2) (.t 116) 3),
 oo 118 (.bin .add 3 0 (.t 115) (.t 117) 3),
 oo 119 (.faddr 26 0 (.t 5) 0),
 oo 120 (.load 22 none (.t 119)),
 oo 121 (.iaddr 22 1 (.t 120) (.n 1)),
 oo 122 (.load 3 none (.t 121)),
 oo 123 (.bin .sub 3 0 (.t 118) (.t 122) 3),
 oo 14 (.asg (.t 111)),
 oo 15 (.asg (.t 123))] [[],[0],[1],[2],[],[4],[3,5],[],[7],[8],[9],[6,10],[],[12],[13],[14],[],[16],[15,17],[],[19],[20],[21],[18,22],[11,0,1,2,3,4,5,6,7,8,9,10,11],[23,24,0,1,2,3,4,5,6,7,8,9,10,11,12,13,14,15,16,17,18,19,20,21,22,23,24]]) (.seq (.seq (.reg [om 124 14,
 oo 125 (.bin .lss 3 0 (.t 124) (.n 0) 3),
 om 126 125,
 og 127 (.mv (.t 15)) 2 126 false,
 og 128 (.bin .lss 3 0 (.t 127) (.n 0) 3) 2 126 false,
 oo 129 (.pick (.t 126) (.c (.bool true)) (.t 128))]) (.cond (.t 129) (.seq (.draw [oo 130 (.build 26 [.sl 0 [],.lit (.bool false)] []),
 oo 131 (.load 38 none (.g 0)),
 ov (.store 26 2 (.t 6) (.t 130)),
 oo 7 (.asg (.t 131))] [[],[],[0,0],[1,2,0,1,2]]) .ret) .skip)) (.seq (.draw [om 132 14,
 om 133 11,
 oo 134 (.bin .quo 3 0 (.t 132) (.t 133) 3),
 oo 135 (.bin .add 3 0 (.t 134) (.n 1) 3),
 om 136 15,
 om 137 11,
 oo 138 (.bin .quo 3 0 (.t 136) (.t 137) 3),
 oo 139 (.bin .add 3 0 (.t 138) (.n 1) 3),
 oo 140 (.faddr 26 0 (.t 5) 0),
 oo 141 (.load 22 none (.t 140)),
 oo 142 (.iaddr 22 1 (.t 141) (.n 3)),
 oo 143 (.load 3 none (.t 142)),
 oo 144 (.bslice 22 3 1 3 [.lit (.int .i64 0)] [(0,(.t 135)),(1,(.t 139)),(2,(.t 143))]),
 oo 145 (.build 26 [.own 1 0 [],.lit (.bool false)] [(0,0,1,(.t 144)),(1,1,1,(.c (.bool true)))]),
 oo 16 (.alloc 26 [.own 1 0 [],.lit (.bool false)]),
 ov (.store 26 2 (.t 16) (.t 145))] [[],[],[0,1],[2],[],[],[4,5],[6],[],[8],[9],[10],[3,7,11],[12],[],[14,13,0,1,2,3,4,5,6,7,8,9,10,11,12,13,14]]) (.seq (.seq (.reg [oo 146 (.load 26 (some 2) (.t 16)),
 oc 147 44 [(false,(.t 146))] [26],
 oo 17 (.asg (.t 147))]) (.seq (.reg [om 148 17,
 oo 149 (.bin .neq 38 2 (.t 148) (.c .nilIface) 38)]) (.cond (.t 149) (.seq (.reg [oo 150 (.build 26 [.sl 0 [],.lit (.bool false)] []),
 om 151 17,
 ov (.store 26 2 (.t 6) (.t 150)),
 oo 7 (.asg (.t 151))]) .ret) .skip))) (.seq (.reg [oo 152 (.load 26 (some 2) (.t 16)),
 ov (.store 26 2 (.t 6) (.t 152)),
 oo 7 (.asg (.c .nilIface))]) .ret)))))))))))
abbrev b6m:Nat:=59
theorem b2t:fnC pg 59 153 [(.cells 6 2),(.tmp 7)] a98:=a0w Go.Proofs.Tryz.f59 [(.cell 6 26),(.tmp 7)] (by kernel_rfl)
@[go_sem] theorem c6d:fnB pg 59=true:=by kernel_rfl
def a1l:IC:=(.seq (.reg [oo 3 (.box 26 2 (.t 1)),
 oo 4 (.alloc 26 [.own 1 0 [],.lit (.bool false)]),
 oo 5 (.asg (.c .nilIface))]) (.seq (.seq (.reg [om 11 0,
 oo 12 (.len 22 false (.t 11)),
 oo 13 (.bin .neq 3 0 (.t 12) (.n 2) 3)]) (.cond (.t 13) (.seq (.draw [oo 14 (.build 26 [.sl 0 [],.lit (.bool false)] []),
 oo 15 (.load 38 none (.g 0)),
 ov (.store 26 2 (.t 4) (.t 14)),
 oo 5 (.asg (.t 15))] [[],[],[0,0],[1,2,0,1,2]]) .ret) .skip)) (.seq (.seq (.reg [oo 16 (.load 26 (some 2) (.t 3)),
 oc 17 44 [(false,(.t 16))] [26],
 oo 6 (.asg (.t 17))]) (.seq (.reg [om 18 6,
 oo 19 (.bin .neq 38 2 (.t 18) (.c .nilIface) 38)]) (.cond (.t 19) (.seq (.reg [oo 20 (.build 26 [.sl 0 [],.lit (.bool false)] []),
 om 21 6,
 ov (.store 26 2 (.t 4) (.t 20)),
 oo 5 (.asg (.t 21))]) .ret) .skip))) (.seq (.seq (.reg [oo 22 (.faddr 26 0 (.t 3) 0),
 oo 23 (.load 22 none (.t 22)),
 oo 24 (.len 22 false (.t 23)),
 oo 25 (.bin .neq 3 0 (.t 24) (.n 3) 3)]) (.cond (.t 25) (.seq (.draw [oo 26 (.build 26 [.sl 0 [],.lit (.bool false)] []),
 oo 27 (.load 38 none (.g 0)),
 ov (.store 26 2 (.t 4) (.t 26)),
 oo 5 (.asg (.t 27))] [[],[],[0,0],[1,2,0,1,2]]) .ret) .skip)) (.seq (.draw [om 28 0,
 oo 29 (.iaddr 22 1 (.t 28) (.n 0)),
 oo 30 (.load 3 none (.t 29)),
 om 31 0,
 oo 32 (.iaddr 22 1 (.t 31) (.n 1)),
 oo 33 (.load 3 none (.t 32)),
 oo 7 (.asg (.t 30)),
 oo 8 (.asg (.t 33))] [[],[0],[1],[],[3],[4],[2,0,1,2],[5,6,0,1,2,3,4,5,6]]) (.seq (.seq (.reg [om 34 7,
 oo 35 (.bin .lss 3 0 (.t 34) (.n 1) 3),
 om 36 35,
 og 37 (.mv (.t 7)) 2 36 false,
 og 38 (.bin .gtr 3 0 (.t 37) (.n 16) 3) 2 36 false,
 oo 39 (.pick (.t 36) (.c (.bool true)) (.t 38)),
 om 40 39,
 og 41 (.mv (.t 8)) 6 40 false,
 og 42 (.bin .lss 3 0 (.t 41) (.n 1) 3) 6 40 false,
 oo 43 (.pick (.t 40) (.c (.bool true)) (.t 42)),
 om 44 43,
 og 45 (.mv (.t 8)) 10 44 false,
 og 46 (.bin .gtr 3 0 (.t 45) (.n 16) 3) 10 44 false,
 oo 47 (.pick (.t 44) (.c (.bool true)) (.t 46))]) (.cond (.t 47) (.seq (.draw [oo 48 (.build 26 [.sl 0 [],.lit (.bool false)] []),
 oo 49 (.load 38 none (.g 5)),
 ov (.store 26 2 (.t 4) (.t 48)),
 oo 5 (.asg (.t 49))] [[],[],[0,0],[1,2,0,1,2]]) .ret) .skip)) (.seq (.draw [oo 50 (.faddr 26 0 (.t 3) 0),
 oo 51 (.load 22 none (.t 50)),
 oo 52 (.iaddr 22 1 (.t 51) (.n 0)),
 oo 53 (.load 3 none (.t 52)),
 om 54 7,
 oo 55 (.bin .sub 3 0 (.t 53) (.t 54) 3),
 oo 56 (.faddr 26 0 (.t 3) 0),
 oo 57 (.load 22 none (.t 56)),
 oo 58 (.iaddr 22 1 (.t 57) (.n 1)),
 oo 59 (.load 3 none (.t 58)),
 om 60 7,
 oo 61 (.bin .sub 3 0 (.t 59) (.t 60) 3),
 oo 9 (.asg (.t 55)),
 oo 10 (.asg (.t 61))] [[],[0],[1],[2],[],[3,4],[],[6],[7],[8],[],[9,10],[5,0,1,2,3,4,5],[11,12,0,1,2,3,4,5,6,7,8,9,10,11,12]]) (.seq (.seq (.reg [om 62 9,
 oo 63 (.bin .lss 3 0 (.t 62) (.n 0) 3),
 om 64 63,
 og 65 (.mv (.t 10)) 2 64 false,
 og 66 (.bin .lss 3 0 (.t 65) (.n 0) 3) 2 64 false,
 oo 67 (.pick (.t 64) (.c (.bool true)) (.t 66))]) (.cond (.t 67) (.seq (.draw [oo 68 (.build 26 [.sl 0 [],.lit (.bool false)] []),
 oo 69 (.load 38 none (.g 0)),
 ov (.store 26 2 (.t 4) (.t 68)),
 oo 5 (.asg (.t 69))] [[],[],[0,0],[1,2,0,1,2]]) .ret) .skip)) (.seq (.draw [om 70 9,
 om 71 8,
 oo 72 (.bin .quo 3 0 (.t 70) (.t 71) 3),
 oo 73 (.bin .add 3 0 (.t 72) (.n 1) 3),
 om 74 10,
 om 75 8,
 oo 76 (.bin .quo 3 0 (.t 74) (.t 75) 3),
 oo 77 (.bin .add 3 0 (.t 76) (.n 1) 3),
 oo 78 (.faddr 26 0 (.t 3) 0),
 oo 79 (.load 22 none (.t 78)),
 oo 80 (.iaddr 22 1 (.t 79) (.n 2)),
 oo 81 (.load 3 none (.t 80)),
 oo 82 (.bslice 22 3 1 3 [.lit (.int .i64 0)] [(0,(.t 73)),(1,(.t 77)),(2,(.t 81))]),
 oo 83 (.faddr 26 1 (.t 3) 1),
 oo 84 (.load 4 none (.t 83)),
 oo 85 (.build 26 [.own 1 0 [],.lit (.bool false)] [(0,0,1,(.t 82)),(1,1,1,(.t 84))]),
 ov (.store 26 2 (.t 4) (.t 85)),
 oo 5 (.asg (.c .nilIface))] [[],[],[0,1],[2],[],[],[4,5],[6],[],[8],[9],[10],[3,7,11],[],[13],[12,14],[15,0,1,2,3,4,5,6,7,8,9,10,11,12,13,14,15],[16,0,1,2,3,4,5,6,7,8,9,10,11,12,13,14,15,16]]) .ret)))))))))
abbrev b6p:Nat:=60
theorem a1b:fnC pg 60 86 [(.cells 4 2),(.tmp 5)] a1l:=a0w Go.Proofs.Tryz.f60 [(.cell 4 26),(.tmp 5)] (by kernel_rfl)
@[go_sem] theorem c74:fnB pg 60=true:=by kernel_rfl
def a4n:IC:=(.seq (.reg [oo 31 (.bin .lss 3 0 (.t 30) (.t 29) 3)]) (.seq (.cond (.t 31) .skip (.exit 1)) (.seq (.block 2 (.seq (.reg [oo 32 (.iaddr 54 2 (.t 28) (.t 30)),
 oo 33 (.load 26 (some 2) (.t 32)),
 oo 8 (.alloc 26 [.own 1 0 [],.lit (.bool false)]),
 ov (.store 26 2 (.t 8) (.t 33))]) (.seq (.reg [oo 34 (.load 26 (some 2) (.t 8)),
 oc 35 44 [(false,(.t 34))] [26],
 oo 9 (.asg (.t 35))]) (.seq (.reg [om 36 9,
 oo 37 (.bin .neq 38 2 (.t 36) (.c .nilIface) 38)]) (.cond (.t 37) (.seq (.reg [oo 38 (.build 26 [.sl 0 [],.lit (.bool false)] []),
 om 39 9,
 ov (.store 26 2 (.t 4) (.t 38)),
 oo 5 (.asg (.t 39))]) .ret) .skip))))) (.reg [oo 40 (.bin .add 3 0 (.t 30) (.n 1) 3),
 om 30 40]))))
def a37:IC:=(.seq (.reg [oo 4 (.alloc 26 [.own 1 0 [],.lit (.bool false)]),
 oo 5 (.asg (.c .nilIface))]) (.seq (.reg [oo 6 (.asg (.n 1))]) (.seq (.seq (.reg [om 13 0]) (.block 0 (.seq (.seq (.reg [oo 17 (.bin .eql 3 0 (.t 13) (.n 19) 3),
 oo 16 (.asg (.t 17))]) (.cond (.t 16) .skip (.reg [oo 18 (.bin .eql 3 0 (.t 13) (.n 20) 3),
 oo 16 (.asg (.t 18))]))) (.cond (.t 16) .skip (.seq (.seq (.reg [oo 20 (.bin .eql 3 0 (.t 13) (.n 16) 3),
 oo 19 (.asg (.t 20))]) (.cond (.t 19) .skip (.reg [oo 21 (.bin .eql 3 0 (.t 13) (.n 17) 3),
 oo 19 (.asg (.t 21))]))) (.cond (.t 19) (.reg [oo 6 (.asg (.n 2))]) (.seq (.draw [oo 14 (.build 26 [.sl 0 [],.lit (.bool false)] []),
 oo 15 (.load 38 none (.g 4)),
 ov (.store 26 2 (.t 4) (.t 14)),
 oo 5 (.asg (.t 15))] [[],[],[0,0],[1,2,0,1,2]]) .ret))))))) (.seq (.seq (.reg [om 22 1,
 oo 23 (.len 54 false (.t 22)),
 om 24 6,
 oo 25 (.bin .neq 3 0 (.t 23) (.t 24) 3)]) (.cond (.t 25) (.seq (.draw [oo 26 (.build 26 [.sl 0 [],.lit (.bool false)] []),
 oo 27 (.load 38 none (.g 0)),
 ov (.store 26 2 (.t 4) (.t 26)),
 oo 5 (.asg (.t 27))] [[],[],[0,0],[1,2,0,1,2]]) .ret) .skip)) (.seq (.seq (.reg [om 28 1,
 oo 29 (.len 54 false (.t 28)),
 oo 30 (.mv (.n 0))]) (.block 1 (.loop a4n))) (.seq (.reg [om 42 0,
 om 43 1,
 oc 44 76 [(false,(.t 42)),(false,(.t 43))] [3,54],
 oo 41 (.mva (.t 44)),
 oo 45 (.ext (.t 41) 0),
 oo 46 (.ext (.t 41) 1),
 oo 10 (.alloc 26 [.own 1 0 [],.lit (.bool false)]),
 ov (.store 26 2 (.t 10) (.t 45)),
 oo 11 (.asg (.t 46))]) (.seq (.seq (.reg [om 47 11,
 oo 48 (.un .not 4 (.t 47))]) (.cond (.t 48) (.seq (.draw [oo 49 (.build 26 [.sl 0 [],.lit (.bool false)] []),
 oo 50 (.load 38 none (.g 0)),
 ov (.store 26 2 (.t 4) (.t 49)),
 oo 5 (.asg (.t 50))] [[],[],[0,0],[1,2,0,1,2]]) .ret) .skip)) (.seq (.seq (.reg [oo 51 (.load 26 (some 2) (.t 10)),
 oc 52 44 [(false,(.t 51))] [26],
 oo 12 (.asg (.t 52))]) (.seq (.reg [om 53 12,
 oo 54 (.bin .neq 38 2 (.t 53) (.c .nilIface) 38)]) (.cond (.t 54) (.seq (.reg [oo 55 (.build 26 [.sl 0 [],.lit (.bool false)] []),
 om 56 12,
 ov (.store 26 2 (.t 4) (.t 55)),
 oo 5 (.asg (.t 56))]) .ret) .skip))) (.seq (.reg [oo 57 (.load 26 (some 2) (.t 10)),
 ov (.store 26 2 (.t 4) (.t 57)),
 oo 5 (.asg (.c .nilIface))]) .ret)))))))))
abbrev b6t:Nat:=61
theorem b22:fnC pg 61 58 [(.cells 4 2),(.tmp 5)] a37:=a0w Go.Proofs.Tryz.f61 [(.cell 4 26),(.tmp 5)] (by kernel_rfl)
@[go_sem] theorem c8j:fnB pg 61=true:=by kernel_rfl
def a4k:IC:=(.seq (.reg [oo 43 (.bin .lss 3 0 (.t 42) (.t 41) 3)]) (.seq (.cond (.t 43) .skip (.exit 0)) (.seq (.block 1 (.seq (.reg [oo 44 (.iaddr 54 2 (.t 40) (.t 42)),
 oo 45 (.load 26 (some 2) (.t 44)),
 oo 12 (.alloc 26 [.own 1 0 [],.lit (.bool false)]),
 ov (.store 26 2 (.t 12) (.t 45))]) (.seq (.reg [oo 46 (.load 26 (some 2) (.t 12)),
 oc 47 44 [(false,(.t 46))] [26],
 oo 13 (.asg (.t 47))]) (.seq (.reg [om 48 13,
 oo 49 (.bin .neq 38 2 (.t 48) (.c .nilIface) 38)]) (.cond (.t 49) (.seq (.reg [oo 50 (.build 26 [.sl 0 [],.lit (.bool false)] []),
 om 51 13,
 ov (.store 26 2 (.t 6) (.t 50)),
 oo 7 (.asg (.t 51))]) .ret) .skip))))) (.reg [oo 52 (.bin .add 3 0 (.t 42) (.n 1) 3),
 om 42 52]))))
def a1v:IC:=(.seq (.reg [oo 6 (.alloc 26 [.own 1 0 [],.lit (.bool false)]),
 oo 7 (.asg (.c .nilIface))]) (.seq (.reg [om 19 0,
 oc 20 71 [(false,(.t 19))] [3],
 oo 18 (.mva (.t 20)),
 oo 21 (.ext (.t 18) 0),
 oo 22 (.ext (.t 18) 1),
 oo 23 (.ext (.t 18) 2),
 oo 8 (.asg (.t 21)),
 oo 9 (.asg (.t 22)),
 oo 10 (.asg (.t 23))]) (.seq (.seq (.reg [om 24 10,
 oo 25 (.un .not 4 (.t 24))]) (.cond (.t 25) (.seq (.draw [oo 26 (.build 26 [.sl 0 [],.lit (.bool false)] []),
 oo 27 (.load 38 none (.g 4)),
 ov (.store 26 2 (.t 6) (.t 26)),
 oo 7 (.asg (.t 27))] [[],[],[0,0],[1,2,0,1,2]]) .ret) .skip)) (.seq (.seq (.reg [om 28 1,
 oo 29 (.len 22 false (.t 28)),
 om 30 9,
 oo 31 (.bin .neq 3 0 (.t 29) (.t 30) 3),
 om 32 31,
 og 33 (.mv (.t 2)) 4 32 false,
 og 34 (.len 54 false (.t 33)) 4 32 false,
 og 35 (.mv (.t 8)) 4 32 false,
 og 36 (.bin .neq 3 0 (.t 34) (.t 35) 3) 4 32 false,
 oo 37 (.pick (.t 32) (.c (.bool true)) (.t 36))]) (.cond (.t 37) (.seq (.draw [oo 38 (.build 26 [.sl 0 [],.lit (.bool false)] []),
 oo 39 (.load 38 none (.g 0)),
 ov (.store 26 2 (.t 6) (.t 38)),
 oo 7 (.asg (.t 39))] [[],[],[0,0],[1,2,0,1,2]]) .ret) .skip)) (.seq (.seq (.reg [om 40 2,
 oo 41 (.len 54 false (.t 40)),
 oo 42 (.mv (.n 0))]) (.block 0 (.loop a4k))) (.seq (.reg [om 53 2,
 oo 54 (.iaddr 54 2 (.t 53) (.n 0)),
 oo 55 (.load 26 (some 2) (.t 54)),
 oo 14 (.alloc 26 [.own 1 0 [],.lit (.bool false)]),
 ov (.store 26 2 (.t 14) (.t 55))]) (.seq (.seq (.draw [om 56 8,
 oo 57 (.bin .eql 3 0 (.t 56) (.n 2) 3),
 om 58 57,
 og 59 (.load 26 (some 2) (.t 14)) 2 58 true,
 og 60 (.mv (.t 2)) 2 58 true,
 og 61 (.iaddr 54 2 (.t 60) (.n 1)) 2 58 true,
 og 62 (.load 26 (some 2) (.t 61)) 2 58 true,
 ⟨(some 63),.call 28 [(false,(.t 59)),(false,(.t 62))] [26,26],(some (2,58,true))⟩,
 og 64 (.un .not 4 (.t 63)) 2 58 true,
 oo 65 (.pick (.t 58) (.t 64) (.c (.bool false))),
 om 66 65,
 og 67 (.mv (.t 0)) 10 66 false,
 og 68 (.bin .eql 3 0 (.t 67) (.n 10) 3) 10 66 false,
 og 69 (.mv (.t 68)) 10 66 false,
 og 70 (.faddr 26 1 (.t 14) 1) 13 69 true,
 og 71 (.load 4 none (.t 70)) 13 69 true,
 og 72 (.un .not 4 (.t 71)) 13 69 true,
 og 73 (.pick (.t 69) (.t 72) (.c (.bool false))) 10 66 false,
 oo 74 (.pick (.t 66) (.c (.bool true)) (.t 73)),
 om 75 74,
 og 76 (.mv (.t 0)) 19 75 false,
 og 77 (.bin .eql 3 0 (.t 76) (.n 11) 3) 19 75 false,
 og 78 (.mv (.t 77)) 19 75 false,
 og 79 (.faddr 26 1 (.t 14) 1) 22 78 true,
 og 80 (.load 4 none (.t 79)) 22 78 true,
 og 81 (.pick (.t 78) (.t 80) (.c (.bool false))) 19 75 false,
 oo 82 (.pick (.t 75) (.c (.bool true)) (.t 81))] [[],[0],[1],[2],[2],[4,2],[5,2],[3,6,2,2],[7,2],[2,8],[9,7],[10],[11,10],[12,10,10],[13],[14,13],[15,13],[13,16,10],[10,17],[18,13],[19],[20,19],[21,19,19],[22],[23,22],[22,24,19],[19,25]]) (.cond (.t 82) (.seq (.draw [oo 83 (.build 26 [.sl 0 [],.lit (.bool false)] []),
 oo 84 (.load 38 none (.g 0)),
 ov (.store 26 2 (.t 6) (.t 83)),
 oo 7 (.asg (.t 84))] [[],[],[0,0],[1,2,0,1,2]]) .ret) .skip)) (.seq (.draw [oo 85 (.faddr 26 1 (.t 14) 1),
 oo 86 (.load 4 none (.t 85)),
 oo 15 (.asg (.c (.bool true))),
 oo 16 (.asg (.t 86))] [[],[0],[],[1,2,0,1,2]]) (.seq (.seq (.reg [om 87 0]) (.block 2 (.seq (.reg [oo 89 (.bin .eql 3 0 (.t 87) (.n 9) 3),
 oo 88 (.asg (.t 89))]) (.cond (.t 88) (.draw [om 90 1,
 oo 91 (.iaddr 22 1 (.t 90) (.n 0)),
 oo 92 (.load 3 none (.t 91)),
 om 93 1,
 oo 94 (.iaddr 22 1 (.t 93) (.n 1)),
 oo 95 (.load 3 none (.t 94)),
 oo 96 (.bin .leq 3 0 (.t 92) (.t 95) 3),
 om 97 96,
 og 98 (.mv (.t 1)) 7 97 true,
 og 99 (.iaddr 22 1 (.t 98) (.n 0)) 7 97 true,
 og 100 (.load 3 none (.t 99)) 7 97 true,
 og 101 (.faddr 26 1 (.t 14) 1) 7 97 true,
 og 102 (.load 4 none (.t 101)) 7 97 true,
 ⟨(some 103),.call 77 [(false,(.t 100)),(false,(.t 102))] [3,4],(some (7,97,true))⟩,
 oo 104 (.pick (.t 97) (.t 103) (.c (.bool false))),
 om 105 104,
 og 106 (.mv (.t 1)) 15 105 true,
 og 107 (.iaddr 22 1 (.t 106) (.n 1)) 15 105 true,
 og 108 (.load 3 none (.t 107)) 15 105 true,
 og 109 (.faddr 26 1 (.t 14) 1) 15 105 true,
 og 110 (.load 4 none (.t 109)) 15 105 true,
 ⟨(some 111),.call 77 [(false,(.t 108)),(false,(.t 110))] [3,4],(some (15,105,true))⟩,
 oo 112 (.pick (.t 105) (.t 111) (.c (.bool false))),
 oo 15 (.asg (.t 112))] [[],[0],[1],[],[3],[4],[2,5],[6],[7],[8,7],[9,7],[7],[11,7],[10,12,7,7],[7,13],[14,13],[15],[16,15],[17,15],[15],[19,15],[18,20,15,15],[15,21],[22,21,0,1,2,3,4,5,6,7,8,9,10,11,12,13,14,15,16,17,18,19,20,21,22]]) (.seq (.reg [oo 114 (.bin .eql 3 0 (.t 87) (.n 10) 3),
 oo 113 (.asg (.t 114))]) (.cond (.t 113) (.reg [om 115 1,
 oo 116 (.iaddr 22 1 (.t 115) (.n 0)),
 oo 117 (.load 3 none (.t 116)),
 oc 118 78 [(false,(.t 117)),(false,(.n 0)),(false,(.n 2147483647))] [3,3,3],
 om 119 118,
 og 120 (.mv (.t 1)) 4 119 true,
 og 121 (.iaddr 22 1 (.t 120) (.n 1)) 4 119 true,
 og 122 (.load 3 none (.t 121)) 4 119 true,
 ⟨(some 123),.call 78 [(false,(.t 122)),(false,(.n 0)),(false,(.n 62))] [3,3,3],(some (4,119,true))⟩,
 oo 124 (.pick (.t 119) (.t 123) (.c (.bool false))),
 om 125 124,
 og 126 (.mv (.t 1)) 10 125 true,
 og 127 (.iaddr 22 1 (.t 126) (.n 2)) 10 125 true,
 og 128 (.load 3 none (.t 127)) 10 125 true,
 ⟨(some 129),.call 77 [(false,(.t 128)),(false,(.c (.bool false)))] [3,4],(some (10,125,true))⟩,
 oo 130 (.pick (.t 125) (.t 129) (.c (.bool false))),
 oo 15 (.asg (.t 130)),
 oo 16 (.asg (.c (.bool false)))]) (.seq (.reg [oo 132 (.bin .eql 3 0 (.t 87) (.n 11) 3),
 oo 131 (.asg (.t 132))]) (.cond (.t 131) (.reg [om 133 1,
 oo 134 (.iaddr 22 1 (.t 133) (.n 0)),
 oo 135 (.load 3 none (.t 134)),
 oc 136 77 [(false,(.t 135)),(false,(.c (.bool false)))] [3,4],
 oo 15 (.asg (.t 136)),
 oo 16 (.asg (.c (.bool true)))]) .skip)))))))) (.seq (.seq (.reg [om 137 15,
 oo 138 (.un .not 4 (.t 137))]) (.cond (.t 138) (.seq (.draw [oo 139 (.build 26 [.sl 0 [],.lit (.bool false)] []),
 oo 140 (.load 38 none (.g 5)),
 ov (.store 26 2 (.t 6) (.t 139)),
 oo 7 (.asg (.t 140))] [[],[],[0,0],[1,2,0,1,2]]) .ret) .skip)) (.seq (.reg [oo 141 (.load 26 (some 2) (.t 14)),
 oc 142 29 [(false,(.t 141))] [26],
 oo 17 (.alloc 26 [.own 1 0 [],.lit (.bool false)]),
 ov (.store 26 2 (.t 17) (.t 142))]) (.seq (.reg [om 143 16,
 oo 144 (.faddr 26 1 (.t 17) 1),
 ov (.store 4 1 (.t 144) (.t 143))]) (.seq (.reg [oo 145 (.load 26 (some 2) (.t 17)),
 ov (.store 26 2 (.t 6) (.t 145)),
 oo 7 (.asg (.c .nilIface))]) .ret)))))))))))))
abbrev a1s:Nat:=64
theorem a1g:fnC pg 64 146 [(.cells 6 2),(.tmp 7)] a1v:=a0w Go.Proofs.Tryz.f64 [(.cell 6 26),(.tmp 7)] (by kernel_rfl)
@[go_sem] theorem c6p:fnB pg 64=true:=by kernel_rfl
def b18:IC:=(.seq (.reg [oo 2 (.asg (.c (.bool false)))]) (.seq (.reg [om 3 0,
 oc 4 75 [(false,(.t 3))] [3],
 om 5 0,
 oo 6 (.bin .eql 3 0 (.t 4) (.t 5) 3),
 oo 2 (.asg (.t 6))]) .ret))
abbrev b8h:Nat:=74
theorem b38:fnC pg 74 7 [(.tmp 2)] b18:=a0w Go.Proofs.Tryz.f74 [(.tmp 2)] (by kernel_rfl)
@[go_sem] theorem c83:fnB pg 74=true:=by kernel_rfl
def b04:IC:=(.seq (.reg [oo 2 (.asg (.n 0))]) (.seq (.reg [om 3 0,
 oo 4 (.mm false [3,3] [(.t 3),(.n 127)]),
 oo 5 (.mm true [3,3] [(.n (-128)),(.t 4)]),
 oo 2 (.asg (.t 5))]) .ret))
abbrev b6u:Nat:=75
theorem b23:fnC pg 75 6 [(.tmp 2)] b04:=a0w Go.Proofs.Tryz.f75 [(.tmp 2)] (by kernel_rfl)
@[go_sem] theorem c8q:fnB pg 75=true:=by kernel_rfl
def a2h:IC:=(.seq (.reg [oo 4 (.alloc 26 [.own 1 0 [],.lit (.bool false)]),
 oo 5 (.asg (.c (.bool false)))]) (.seq (.reg [om 9 1,
 oo 10 (.iaddr 54 2 (.t 9) (.n 0)),
 oo 11 (.load 26 (some 2) (.t 10)),
 oo 6 (.alloc 26 [.own 1 0 [],.lit (.bool false)]),
 ov (.store 26 2 (.t 6) (.t 11))]) (.seq (.reg [oo 12 (.faddr 26 0 (.t 6) 0),
 oo 13 (.load 22 none (.t 12)),
 oo 14 (.len 22 false (.t 13)),
 oo 7 (.asg (.t 14))]) (.seq (.seq (.reg [om 15 0]) (.block 0 (.seq (.reg [oo 17 (.bin .eql 3 0 (.t 15) (.n 16) 3),
 oo 16 (.asg (.t 17))]) (.cond (.t 16) (.seq (.reg [oo 18 (.load 26 (some 2) (.t 6)),
 oc 19 29 [(false,(.t 18))] [26],
 om 20 7,
 oo 21 (.bin .gtr 3 0 (.t 20) (.n 0) 3),
 om 22 21,
 og 23 (.faddr 26 1 (.t 6) 1) 4 22 true,
 og 24 (.load 4 none (.t 23)) 4 22 true,
 og 25 (.un .not 4 (.t 24)) 4 22 true,
 oo 26 (.pick (.t 22) (.t 25) (.c (.bool false))),
 om 27 26,
 og 28 (.mv (.t 1)) 9 27 true,
 og 29 (.iaddr 54 2 (.t 28) (.n 1)) 9 27 true,
 og 30 (.load 26 (some 2) (.t 29)) 9 27 true,
 og 31 (.bslice 22 3 1 1 [.lit (.int .i64 0)] [(0,(.n 256))]) 9 27 true,
 og 32 (.build 26 [.own 1 0 [],.lit (.bool false)] [(0,0,1,(.t 31)),(1,1,1,(.c (.bool true)))]) 9 27 true,
 ⟨(some 33),.call 28 [(false,(.t 30)),(false,(.t 32))] [26,26],(some (9,27,true))⟩,
 oo 34 (.pick (.t 27) (.t 33) (.c (.bool false))),
 ov (.store 26 2 (.t 4) (.t 19)),
 oo 5 (.asg (.t 34))]) .ret) (.seq (.reg [oo 36 (.bin .eql 3 0 (.t 15) (.n 17) 3),
 oo 35 (.asg (.t 36))]) (.cond (.t 35) (.seq (.reg [om 37 1,
 oo 38 (.iaddr 54 2 (.t 37) (.n 1)),
 oo 39 (.load 26 (some 2) (.t 38)),
 oo 8 (.alloc 26 [.own 1 0 [],.lit (.bool false)]),
 ov (.store 26 2 (.t 8) (.t 39))]) (.seq (.seq (.reg [om 40 7,
 oo 41 (.bin .neq 3 0 (.t 40) (.n 2) 3),
 om 42 41,
 og 43 (.faddr 26 0 (.t 8) 0) 2 42 false,
 og 44 (.load 22 none (.t 43)) 2 42 false,
 og 45 (.len 22 false (.t 44)) 2 42 false,
 og 46 (.bin .neq 3 0 (.t 45) (.n 1) 3) 2 42 false,
 oo 47 (.pick (.t 42) (.c (.bool true)) (.t 46)),
 om 48 47,
 og 49 (.faddr 26 1 (.t 8) 1) 8 48 false,
 og 50 (.load 4 none (.t 49)) 8 48 false,
 og 51 (.un .not 4 (.t 50)) 8 48 false,
 oo 52 (.pick (.t 48) (.c (.bool true)) (.t 51))]) (.cond (.t 52) (.seq (.reg [oo 53 (.build 26 [.sl 0 [],.lit (.bool false)] []),
 ov (.store 26 2 (.t 4) (.t 53)),
 oo 5 (.asg (.c (.bool false)))]) .ret) .skip)) (.seq (.draw [oo 54 (.faddr 26 0 (.t 8) 0),
 oo 55 (.load 22 none (.t 54)),
 oo 56 (.iaddr 22 1 (.t 55) (.n 0)),
 oo 57 (.load 3 none (.t 56)),
 oo 58 (.faddr 26 0 (.t 6) 0),
 oo 59 (.load 22 none (.t 58)),
 oo 60 (.iaddr 22 1 (.t 59) (.n 1)),
 oo 61 (.load 3 none (.t 60)),
 oo 62 (.bslice 22 3 1 2 [.lit (.int .i64 0)] [(0,(.t 57)),(1,(.t 61))]),
 oo 63 (.faddr 26 1 (.t 6) 1),
 oo 64 (.load 4 none (.t 63)),
 oo 65 (.build 26 [.own 1 0 [],.lit (.bool false)] [(0,0,1,(.t 62)),(1,1,1,(.t 64))]),
 ov (.store 26 2 (.t 4) (.t 65)),
 oo 5 (.asg (.c (.bool true)))] [[],[0],[1],[2],[],[4],[5],[6],[3,7],[],[9],[8,10],[11,0,1,2,3,4,5,6,7,8,9,10,11],[12,0,1,2,3,4,5,6,7,8,9,10,11,12]]) .ret))) .skip)))))) (.seq (.seq (.reg [om 66 7,
 oo 67 (.bin .eql 3 0 (.t 66) (.n 0) 3)]) (.cond (.t 67) (.seq (.reg [oo 68 (.build 26 [.sl 0 [],.lit (.bool false)] []),
 ov (.store 26 2 (.t 4) (.t 68)),
 oo 5 (.asg (.c (.bool false)))]) .ret) .skip)) (.seq (.reg [oo 69 (.faddr 26 0 (.t 6) 0),
 oo 70 (.load 22 none (.t 69)),
 om 71 7,
 oo 72 (.bin .sub 3 0 (.t 71) (.n 1) 3),
 oo 73 (.slice 22 1 (.t 70) none (some (.t 72)) none),
 oc 74 30 [(false,(.t 73))] [22],
 oo 75 (.build 26 [.own 1 0 [],.lit (.bool false)] [(0,0,1,(.t 74)),(1,1,1,(.c (.bool true)))]),
 ov (.store 26 2 (.t 4) (.t 75)),
 oo 5 (.asg (.c (.bool true)))]) .ret))))))
abbrev a5t:Nat:=76
theorem a1z:fnC pg 76 76 [(.cells 4 2),(.tmp 5)] a2h:=a0w Go.Proofs.Tryz.f76 [(.cell 4 26),(.tmp 5)] (by kernel_rfl)
@[go_sem] theorem c9c:fnB pg 76=true:=by kernel_rfl
def b0d:IC:=(.seq (.reg [oo 2 (.asg (.n 0)),
 oo 3 (.asg (.n 0)),
 oo 4 (.asg (.c (.bool false)))]) (.seq (.seq (.reg [om 5 0]) (.block 0 (.seq (.seq (.reg [oo 7 (.bin .eql 3 0 (.t 5) (.n 4) 3),
 oo 6 (.asg (.t 7))]) (.cond (.t 6) .skip (.seq (.reg [oo 8 (.bin .eql 3 0 (.t 5) (.n 5) 3),
 oo 6 (.asg (.t 8))]) (.cond (.t 6) .skip (.seq (.reg [oo 9 (.bin .eql 3 0 (.t 5) (.n 6) 3),
 oo 6 (.asg (.t 9))]) (.cond (.t 6) .skip (.reg [oo 10 (.bin .eql 3 0 (.t 5) (.n 7) 3),
 oo 6 (.asg (.t 10))]))))))) (.cond (.t 6) (.seq (.reg [oo 2 (.asg (.n 2)),
 oo 3 (.asg (.n 0)),
 oo 4 (.asg (.c (.bool true)))]) .ret) (.seq (.reg [oo 12 (.bin .eql 3 0 (.t 5) (.n 8) 3),
 oo 11 (.asg (.t 12))]) (.cond (.t 11) (.seq (.reg [oo 2 (.asg (.n 1)),
 oo 3 (.asg (.n 0)),
 oo 4 (.asg (.c (.bool true)))]) .ret) (.seq (.reg [oo 14 (.bin .eql 3 0 (.t 5) (.n 9) 3),
 oo 13 (.asg (.t 14))]) (.cond (.t 13) (.seq (.reg [oo 2 (.asg (.n 1)),
 oo 3 (.asg (.n 2)),
 oo 4 (.asg (.c (.bool true)))]) .ret) (.seq (.reg [oo 16 (.bin .eql 3 0 (.t 5) (.n 10) 3),
 oo 15 (.asg (.t 16))]) (.cond (.t 15) (.seq (.reg [oo 2 (.asg (.n 1)),
 oo 3 (.asg (.n 3)),
 oo 4 (.asg (.c (.bool true)))]) .ret) (.seq (.reg [oo 18 (.bin .eql 3 0 (.t 5) (.n 11) 3),
 oo 17 (.asg (.t 18))]) (.cond (.t 17) (.seq (.reg [oo 2 (.asg (.n 1)),
 oo 3 (.asg (.n 1)),
 oo 4 (.asg (.c (.bool true)))]) .ret) .skip)))))))))))) (.seq (.reg [oo 2 (.asg (.n 0)),
 oo 3 (.asg (.n 0)),
 oo 4 (.asg (.c (.bool false)))]) .ret)))
abbrev b6n:Nat:=71
theorem b2u:fnC pg 71 19 [(.tmp 2),(.tmp 3),(.tmp 4)] b0d:=a0w Go.Proofs.Tryz.f71 [(.tmp 2),(.tmp 3),(.tmp 4)] (by kernel_rfl)
@[go_sem] theorem c6q:fnB pg 71=true:=by kernel_rfl
def b3x:IC:=(.seq (.reg [oo 4 (.asg (.c (.bool false)))]) (.seq (.seq (.reg [om 5 1]) (.cond (.t 5) (.seq (.reg [om 6 0,
 oc 7 78 [(false,(.t 6)),(false,(.n (-2147483648))),(false,(.n 2147483647))] [3,3,3],
 oo 4 (.asg (.t 7))]) .ret) .skip)) (.seq (.reg [om 8 0,
 oc 9 78 [(false,(.t 8)),(false,(.n (-128))),(false,(.n 127))] [3,3,3],
 oo 4 (.asg (.t 9))]) .ret)))
abbrev c5v:Nat:=77
theorem b88:fnC pg 77 10 [(.tmp 4)] b3x:=a0w Go.Proofs.Tryz.f77 [(.tmp 4)] (by kernel_rfl)
@[go_sem] theorem d3z:fnB pg 77=true:=by kernel_rfl
def b86:IC:=(.seq (.reg [oo 6 (.asg (.c (.bool false)))]) (.seq (.reg [om 7 0,
 om 8 1,
 oo 9 (.bin .geq 3 0 (.t 7) (.t 8) 3),
 om 10 9,
 og 11 (.mv (.t 0)) 3 10 true,
 og 12 (.mv (.t 2)) 3 10 true,
 og 13 (.bin .leq 3 0 (.t 11) (.t 12) 3) 3 10 true,
 oo 14 (.pick (.t 10) (.t 13) (.c (.bool false))),
 oo 6 (.asg (.t 14))]) .ret))
abbrev c5u:Nat:=78
theorem b87:fnC pg 78 15 [(.tmp 6)] b86:=a0w Go.Proofs.Tryz.f78 [(.tmp 6)] (by kernel_rfl)
@[go_sem] theorem d3y:fnB pg 78=true:=by kernel_rfl
abbrev a4j:Nat:=43
section
variable {G:GG} {bk:Nat->Nat×Nat} {Q:Exit->St->Prop} {st:St}
theorem b39 (n:Int):ACalls pg G b6u [li n] (li (max (min n 127) (-128))):=by
 refine b23 rfl ?_
 simp (disch:=omega) [go_sem,b04]
 split<;>split<;>omega
theorem b9r (n:Int):ACalls pg G b8h [li n] (lb (a2r n)):=by
 refine b38 rfl ?_
 have h:(decide (max (min n 127) (-128)=n))=a2r n:=by
  rw [a2r,<-Bool.decide_and]; exact decide_eq_decide.2 (by omega)
 simp (disch:=omega) [go_sem,b18]
 refine a0e (b39 n) rfl rfl ?_
 simp (disch:=omega) [go_sem,h]
theorem d0t (n a b:Int):ACalls pg G c5u [li n,li a,li b] (lb (decide (a<=n)&&decide (n<=b))):=by
 refine b87 rfl ?_
 by_cases h:a<=n<;>simp (disch:=omega) [go_sem,b86,h]
theorem d07 (n:Int) (w:Bool):ACalls pg G c5v [li n,lb w] (lb (b78 n w)):=by
 refine b88 rfl ?_
 cases w
 ·simp (disch:=omega) [go_sem,b3x]
  refine a0e (d0t n (-128) 127) rfl rfl ?_
  simp (disch:=omega) [go_sem,b78,a2r]
 ·simp (disch:=omega) [go_sem,b3x]
  refine a0e (d0t n (-2147483648) 2147483647) rfl rfl ?_
  simp (disch:=omega) [go_sem,b78]
theorem c1z (n:Int):ACalls pg G c34 [li n] (lb (a3d n)):=by
 refine b7p rfl ?_
 by_cases h:4<=n<;>simp (disch:=omega) [go_sem,b59,h,a3d]
theorem a3y (n:Int) (h:4<=n/\n<=11):ACalls pg G b6n [li n] (.tup [li (a2b n),li (a1r n),lb true]):=by
 refine b2u rfl ?_
 obtain ⟨h1,h2⟩:=h
 obtain rfl | rfl | rfl | rfl | rfl | rfl | rfl | rfl:n=4\/n=5\/n=6\/n=7\/n=8\/n=9\/n=10\/n=11:=by omega
 all_goals simp (disch:=omega) [go_sem,b0d,a2b,a1r,a3d]
theorem f5k (n:Int):ACalls pg G c9f [li n] (li (a2b n)):=by
 refine c2d rfl ?_
 by_cases h:n=4\/n=5\/n=6\/n=7\/n=12\/n=13\/n=16\/n=17
 ·rcases h with rfl | rfl | rfl | rfl | rfl | rfl | rfl | rfl<;>simp (disch:=omega) [go_sem,b7o,a2b]
 ·have h':=h
  simp only [not_or] at h'
  obtain ⟨a,b,c,d,e,f,g,i⟩:=h'
  simp (disch:=omega) [go_sem,b7o,a,b,c,d,e,f,g,i]
  refine a0e (c1z n) rfl rfl ?_
  cases k:a3d n<;>simp (disch:=omega) [go_sem,a2b,a,b,c,d,e,f,g,i,k]
theorem d9v (n:Int):ACalls pg G c5w [li n] (li (a1r n)):=by
 refine b9v rfl ?_
 by_cases h:n=9\/n=12\/n=14\/n=15\/n=10\/n=13\/n=11
 ·rcases h with rfl | rfl | rfl | rfl | rfl | rfl | rfl<;>simp (disch:=omega) [go_sem,b4d,a1r]
 ·simp only [not_or] at h
  obtain ⟨a,b,c,d,e,f,g⟩:=h
  simp (disch:=omega) [go_sem,b4d,a1r,a,b,c,d,e,f,g]
end
end Go.Ideal.Tryz
end
