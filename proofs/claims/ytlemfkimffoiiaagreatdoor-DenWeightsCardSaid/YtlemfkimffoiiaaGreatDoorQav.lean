/- Part Qav of the proof: walks on a machine that is proved sound. -/
import Derived.Test.YtlemfkimffoiiaaGreatDoorQam
import Derived.Test.YtlemfkimffoiiaaGreatDoorQan
import Derived.Test.YtlemfkimffoiiaaGreatDoorQao
import Derived.Test.YtlemfkimffoiiaaGreatDoorQap
import Derived.Test.YtlemfkimffoiiaaGreatDoorQaq
import Derived.Test.YtlemfkimffoiiaaGreatDoorQar
import Derived.Test.YtlemfkimffoiiaaGreatDoorQas
import Derived.Test.YtlemfkimffoiiaaGreatDoorQat
import Derived.Test.YtlemfkimffoiiaaGreatDoorQau
import Derived.Test.YtlemfkimffoiiaaGreatDoorQak
import Derived.Test.YtlemfkimffoiiaaGreatDoorQah
import Derived.Test.YtlemfkimffoiiaaGreatDoorQaa
import Derived.Test.YtlemfkimffoiiaaGreatDoorQag
import Derived.Carry
import Derived.ChangeSame
import Derived.ChangeVars
import Derived.JoinedOf
import Derived.RowKit
import Derived.RowKitTokens
import Derived.LaidLaws
import Derived.LaidHandle
import Derived.Stop.Joined
import Derived.Handed
import Derived.SevenTiedAt
import Derived.Test.YtlemfkimffoiiaaGreatDoorRows
import Derived.MakeChecks
import Derived.Test.YtlemfkimffoiiaaGreatDoorQai
import Derived.Test.YtlemfkimffoiiaaGreatDoorQal
set_option linter.unusedVariables false
set_option linter.unusedSimpArgs false
set_option maxHeartbeats 8000000
set_option maxRecDepth 200000
section
namespace Go.Ideal.Tryz
attribute [local go_sem] eD eT eV
section
variable {G:GG} {bk:Nat->Nat×Nat} {Q:Exit->St->Prop} {st:St}
theorem e1a (hS:SentO G bk) (op:Int) (args:List Int) (ins:List Ds) (hf:∀ d∈ins,d.shape.length < 2 ^ 40) (ho:4<=op/\op<=11) (h1:ins.length=a2b op) (h2:args.length=a1r op):ACalls pg G a1s [li op,slI args,slD ins] (b25 bk (a6y op args ins)):=by
 obtain rfl | rfl | rfl | rfl | rfl | rfl | rfl | rfl:op=4\/op=5\/op=6\/op=7\/op=8\/op=9\/op=10\/op=11:=by omega
 ·exact c9w hS args ins hf h1 h2
 ·exact c9x hS args ins hf h1 h2
 ·exact c9y hS args ins hf h1 h2
 ·exact c9z hS args ins hf h1 h2
 ·exact c90 hS args ins hf h1 h2
 ·exact c91 hS args ins hf h1 h2
 ·exact c6n hS args ins hf h1 h2
 ·exact c6o hS args ins hf h1 h2
theorem a2t (r:Dr):noRef (b25 bk r)=true:=by simp [go_sem,noRef]
theorem e40 (hS:SentO G bk) (op:Int) (args:List Int) (ins:List Ds) (hf:∀ d∈ins,d.shape.length < 2 ^ 40) (hn:ins.length < 2 ^ 40) (ha:args.length < 2 ^ 40):ACalls pg G c0r [li op,slI args,slD ins] (b25 bk (opR op args ins)):=by
 have h7:=hS.val 0 (by decide)
 have h4:=hS.val 4 (by decide)
 refine b5f rfl ?_
 simp (disch:=omega) [go_sem,b4e]
 refine a0e (c1z op) rfl rfl ?_
 cases hk:a3d op
 ·rw [show opR op args ins=bad 5 by simp [opR,hk]]
  simp (disch:=omega) [go_sem]
  refine a0b ?_
  simp (disch:=omega) [go_sem,h4,bad,dn,a0t]
  refine a0d (by decide) fun s2 hs2 hes2=> ?_
  simp (disch:=omega) [go_sem,hs2,h4,bad,dn,a0t]
 simp (disch:=omega) [go_sem]
 refine a0e (f5k op) rfl rfl ?_
 by_cases k1:ins.length=a2b op
 ·have k1':(ins.length:Int)=(a2b op:Nat):=by omega
  have hop:4<=op/\op<=21:=by simpa [a3d] using hk
  by_cases k2:op=18
  ·subst k2
   obtain ⟨a,rfl⟩:=c5r (k1.trans (by decide))
   have la:=hf a (by simp)
   rw [show opR 18 args [a]=a50 args a by rw [opR,if_pos hk,if_pos ⟨k1,.inl rfl⟩]; rfl,sl1]
   simp (disch:=omega) [go_sem,<-k1']
   refine a0j (e5q hS args a la ha) (a2t _) (by simp (disch:=omega) [go_sem]) ?_
   simp (disch:=omega) [go_sem]
  ·simp (disch:=omega) [go_sem,k1',k2]
   refine a0e (d9v op) rfl rfl ?_
   by_cases k3:args.length=a1r op
   ·have k3':(args.length:Int)=(a1r op:Nat):=by omega
    obtain ho | rfl | rfl | rfl | rfl | rfl | rfl | rfl | rfl | rfl:(4<=op/\op<=11)\/op=12\/op=13\/op=14\/op=15\/op=16\/op=17\/op=19\/op=20\/op=21:=by omega
    ·rw [show opR op args ins=a6y op args ins by
      rw [opR,if_pos hk,if_pos ⟨k1,.inr k3⟩]
      simp only [show ¬ op=12 by omega,show ¬ op=13 by omega,show ¬ op=14 by omega,show ¬ op=15 by omega,show ¬ op=16 by omega,show ¬ op=17 by omega,show ¬ op=19 by omega,show ¬ op=20 by omega,show ¬ op=18 by omega,show ¬ op=21 by omega,or_self,if_false]]
     simp (disch:=omega) [go_sem,k1',k2,k3',show ¬ op=12 by omega,show ¬ op=13 by omega,show ¬ op=14 by omega,show ¬ op=15 by omega,show ¬ op=16 by omega,show ¬ op=17 by omega,show ¬ op=19 by omega,show ¬ op=20 by omega,show ¬ op=18 by omega,show ¬ op=21 by omega]
     refine a0j (e1a hS op args ins hf ho k1 k3) (a2t _) (by simp (disch:=omega) [go_sem]) ?_
     simp (disch:=omega) [go_sem]
    ·
     obtain ⟨a,b,rfl⟩:=c0l (k1.trans (by decide))
     have la:=hf a (by simp)
     have lb':=hf b (by simp)
     obtain ⟨x,y,rfl⟩:=c0l (k3.trans (by decide))
     rw [show opR 12 [x,y] [a,b]=c81 x y a b by rw [opR,if_pos hk,if_pos ⟨k1,.inr k3⟩]; rfl]
     rw [sl2]
     simp (disch:=omega) [go_sem,k1',k3']
     refine a0b ?_
     simp (disch:=omega) [go_sem]
     refine a99 (e3g hS x y a b (by omega) (by omega)) (a2t _) (by simp (disch:=omega) [go_sem]) (by simp (disch:=omega) [go_sem,a0v,a8l]) [46] (by simp) (by simp (disch:=omega) [go_sem]) ?_
     simp (disch:=omega) [go_sem,a0v,a8l]
     refine a0d (by decide) fun s2 hs2 he2=> ?_
     simp (disch:=omega) [go_sem,hs2]
    ·
     obtain ⟨a,b,rfl⟩:=c0l (k1.trans (by decide))
     have la:=hf a (by simp)
     have lb':=hf b (by simp)
     obtain ⟨x,y,z,rfl⟩:=e9d (k3.trans (by decide))
     rw [show opR 13 [x,y,z] [a,b]=b5b [x,y,z] a b by rw [opR,if_pos hk,if_pos ⟨k1,.inr k3⟩]; rfl]
     rw [sl2]
     simp (disch:=omega) [go_sem,k1',k3']
     refine a0b ?_
     simp (disch:=omega) [go_sem]
     refine a99 (d3o hS x y z a b (by omega) (by omega)) (a2t _) (by simp (disch:=omega) [go_sem]) (by simp (disch:=omega) [go_sem,a0v,a8l]) [58] (by simp) (by simp (disch:=omega) [go_sem]) ?_
     simp (disch:=omega) [go_sem,a0v,a8l]
     refine a0d (by decide) fun s2 hs2 he2=> ?_
     simp (disch:=omega) [go_sem,hs2]
    ·
     obtain ⟨a,rfl⟩:=c5r (k1.trans (by decide))
     have la:=hf a (by simp)
     obtain ⟨x,y,rfl⟩:=c0l (k3.trans (by decide))
     rw [show opR 14 [x,y] [a]=b91 [x,y] a by rw [opR,if_pos hk,if_pos ⟨k1,.inr k3⟩]; rfl]
     rw [sl1]
     simp (disch:=omega) [go_sem,k1',k3']
     refine a0j (d2v hS x y a (by omega)) (a2t _) (by simp (disch:=omega) [go_sem]) ?_
     simp (disch:=omega) [go_sem]
    ·
     obtain ⟨a,rfl⟩:=c5r (k1.trans (by decide))
     have la:=hf a (by simp)
     obtain ⟨x,y,rfl⟩:=c0l (k3.trans (by decide))
     rw [show opR 15 [x,y] [a]=b91 [x,y] a by rw [opR,if_pos hk,if_pos ⟨k1,.inr k3⟩]; rfl]
     rw [sl1]
     simp (disch:=omega) [go_sem,k1',k3']
     refine a0j (d2v hS x y a (by omega)) (a2t _) (by simp (disch:=omega) [go_sem]) ?_
     simp (disch:=omega) [go_sem]
    ·
     rw [show opR 16 args ins=c2q 16 ins by rw [opR,if_pos hk,if_pos ⟨k1,.inr k3⟩]; rfl]
     simp (disch:=omega) [go_sem,k1',k3']
     refine a0j (c3w hS 16 ins hf (by rw [k1]; decide)) (a2t _) (by simp (disch:=omega) [go_sem]) ?_
     simp (disch:=omega) [go_sem]
    ·
     rw [show opR 17 args ins=c2q 17 ins by rw [opR,if_pos hk,if_pos ⟨k1,.inr k3⟩]; rfl]
     simp (disch:=omega) [go_sem,k1',k3']
     refine a0j (c3w hS 17 ins hf (by rw [k1]; decide)) (a2t _) (by simp (disch:=omega) [go_sem]) ?_
     simp (disch:=omega) [go_sem]
    ·
     rw [show opR 19 args ins=c2q 19 ins by rw [opR,if_pos hk,if_pos ⟨k1,.inr k3⟩]; rfl]
     simp (disch:=omega) [go_sem,k1',k3']
     refine a0j (c3w hS 19 ins hf (by rw [k1]; decide)) (a2t _) (by simp (disch:=omega) [go_sem]) ?_
     simp (disch:=omega) [go_sem]
    ·
     rw [show opR 20 args ins=c2q 20 ins by rw [opR,if_pos hk,if_pos ⟨k1,.inr k3⟩]; rfl]
     simp (disch:=omega) [go_sem,k1',k3']
     refine a0j (c3w hS 20 ins hf (by rw [k1]; decide)) (a2t _) (by simp (disch:=omega) [go_sem]) ?_
     simp (disch:=omega) [go_sem]
    ·
     obtain ⟨a,rfl⟩:=c5r (k1.trans (by decide))
     have la:=hf a (by simp)
     rw [show opR 21 args [a]=b73 a by rw [opR,if_pos hk,if_pos ⟨k1,.inr k3⟩]; rfl]
     rw [sl1]
     simp (disch:=omega) [go_sem,k1',k3']
     refine a0j (e6z hS a (by omega)) (a2t _) (by simp (disch:=omega) [go_sem]) ?_
     simp (disch:=omega) [go_sem]
   ·have k3':¬ (args.length:Int)=(a1r op:Nat):=by omega
    rw [show opR op args ins=bad 6 by rw [opR,if_pos hk,if_neg (fun h=>h.2.elim k2 k3)]]
    simp (disch:=omega) [go_sem,k1',k2,k3']
    refine a0b ?_
    simp (disch:=omega) [go_sem,h7,bad,dn,a0t]
    refine a0d (by decide) fun s2 hs2 hes2=> ?_
    simp (disch:=omega) [go_sem,hs2,h7,bad,dn,a0t]
 ·have k1':¬ (ins.length:Int)=(a2b op:Nat):=by omega
  rw [show opR op args ins=bad 6 by rw [opR,if_pos hk,if_neg (fun h=>k1 h.1)]]
  simp (disch:=omega) [go_sem,k1']
  refine a0b ?_
  simp (disch:=omega) [go_sem,h7,bad,dn,a0t]
  refine a0d (by decide) fun s2 hs2 hes2=> ?_
  simp (disch:=omega) [go_sem,hs2,h7,bad,dn,a0t]
end
end Go.Ideal.Tryz
end
section
namespace Go.Ideal.Tryz
attribute [local go_sem] eD eT eV eI eP
section
variable {G:GG} {bk:Nat->Nat×Nat} {Q:Exit->St->Prop} {st:St}
theorem c4b (sh:List Int) (w:Bool):0<=b81 sh w/\b81 sh w<=65536:=by
 have hbr:=b5u sh
 unfold b81
 split<;>omega
@[go_sem] theorem f3a {xs:List Tn} {i:Nat} (h:i < xs.length):((fm eT xs).drop (i*3)).take 2=[slI xs[i].shape,lb xs[i].wide]:=d2e (f:=eT) (k:=3) (j:=0) (fun _=>rfl) h (by omega)
structure PlB (p:Pl):Prop where
 views:p.views.length < 2 ^ 30
 consts:p.consts.length < 2 ^ 30
 weights:p.weights.length < 2 ^ 30
 code:p.code.length < 2 ^ 30
 v:∀ v∈p.views,v.shape.length < 2 ^ 30/\ -4611686018427387904<=v.off/\v.off < 4611686018427387904
 c:∀ v∈p.consts,v.shape.length < 2 ^ 30/\v.data.length < 2 ^ 30
 w:∀ v∈p.weights,v.shape.length < 2 ^ 30
structure PlL (p:Pl):Prop where
 views:p.views.length < 2 ^ 30
 consts:p.consts.length < 2 ^ 30
 weights:p.weights.length < 2 ^ 30
 code:p.code.length < 2 ^ 30
 v:∀ v∈p.views,v.shape.length < 2 ^ 30
 c:∀ v∈p.consts,v.shape.length < 2 ^ 30/\v.data.length < 2 ^ 30
 w:∀ v∈p.weights,v.shape.length < 2 ^ 30
theorem PlB.l {p:Pl} (h:PlB p):PlL p:=⟨h.views,h.consts,h.weights,h.code,fun v hv=>(h.v v hv).1,h.c,h.w⟩
structure InB (p:Pl) (i:In):Prop where
 ins:i.ins.length < 2 ^ 30
 args:i.args.length < 2 ^ 30
def LB (r:Dr):Prop:=r.1.shape.length < 2 ^ 40
theorem a8x {e:Er} {r:Dr} (h:LB r):LB (chk e r):=by unfold chk; split; exact h; show (0:Nat) < 2 ^ 40; decide
theorem a5d {g:Nat}:LB (bad g):=by show (0:Nat) < 2 ^ 40; decide
theorem c0v {r:Dr} (h:LB r):∀ {l:List Ds},LB (b84 l r)
 | []=>h
 | d::ds=>a8x (c0v h)
theorem a53 {c:Prop} [Decidable c] {a b:Dr} (h:LB a) (h2:LB b):LB (if c then a else b):=by split; exact h; exact h2
theorem c0w {sh:List Int} {w:Bool} (h:sh.length < 2 ^ 40):LB (b4r sh w):=a8x h
theorem c65 {ins:List Ds} (hf:∀ d∈ins,d.shape.length < 2 ^ 40) (k:Nat):(ins[k]!).shape.length < 2 ^ 40:=by
 by_cases h:k < ins.length
 ·have:=hf _ (List.getElem_mem h); simpa [h] using this
 ·simp only [getElem!_def,List.getElem?_eq_none (Nat.le_of_not_lt h)]
  show (0:Nat) < 2 ^ 40
  decide
theorem c42 {op:Int} {ins:List Ds} (hf:∀ d∈ins,d.shape.length < 2 ^ 40):(a27 op ins).1.shape.length < 2 ^ 40:=by
 have h0:=c65 hf 0
 unfold a27
 split
 ·exact h0
 ·split
  ·split<;>simp [dn]
  ·split
   ·simp [dn]
   ·simp only [List.length_dropLast]; omega
theorem c7y {op:Int} {args:List Int} {ins:List Ds} (hf:∀ d∈ins,d.shape.length < 2 ^ 40) (ha:args.length < 2 ^ 40):(opR op args ins).1.shape.length < 2 ^ 40:=by
 have h0:=c65 hf 0
 have hl:=c42 (op:=op) hf
 have l2:∀ {a b:Int},([a,b]:List Int).length < 2 ^ 40:=by intros; simp
 have l3:∀ {a b c:Int},([a,b,c]:List Int).length < 2 ^ 40:=by intros; simp
 show LB (opR op args ins)
 unfold opR
 refine a53 (a53 ?_ a5d) a5d
 refine a53 (a8x (a8x (a53 (a53 (c0w l2) a5d) a5d))) ?_
 refine a53 (a8x (a8x (a53 (a53 (a53 (c0w l3) a5d) a5d) a5d))) ?_
 refine a53 (a8x (a53 (a53 (a53 l3 a5d) a5d) a5d)) ?_
 refine a53 (c0v (a53 (c0w hl) a5d)) ?_
 refine a53 (a8x (a8x (a53 ha a5d))) ?_
 refine a53 (a8x (a53 l2 a5d)) ?_
 exact c0v (a53 a5d (a53 (show LB (⟨ins[0]!.shape,a11 op ins[0]!.wide⟩,.nil) from h0) a5d))
@[go_sem] theorem g4g {xs:List Vw} {i:Nat} (h:i < xs.length):(fm eV xs)[i*3+1]? =some (slI xs[i].shape):=c1p (f:=eV) (k:=3) (j:=1) (fun _=>rfl) h (by omega)
def Er.snt (e:Er):Prop:=e= .nil\/∃ g,g < 21/\e= .s g
theorem d5p {g:Nat} (h:g < 21):(Er.s g).snt:= .inr ⟨g,h,rfl⟩
theorem b4u:Er.nil.snt:= .inl rfl
theorem e6l (sh:List Int):(a1a sh).snt:=by
 rcases a5g sh with h | h | h<;>rw [h]
 ·exact b4u
 ·exact d5p (by decide)
 ·exact d5p (by decide)
def SB (r:Dr):Prop:=r.2.snt
theorem a8y {sh:List Int} {r:Dr} (h:SB r):SB (chk (a1a sh) r):=by unfold chk; split; exact h; exact e6l sh
theorem c50 {g:Nat} (h:g < 21):SB (bad g):=d5p h
theorem c00 {r:Dr} (h:SB r):∀ {l:List Ds},SB (b84 l r)
 | []=>h
 | d::ds=>a8y (c00 h)
theorem a54 {c:Prop} [Decidable c] {a b:Dr} (h:SB a) (h2:SB b):SB (if c then a else b):=by split; exact h; exact h2
theorem c51 {d:Ds}:SB (d,.nil):=b4u
theorem c01 {sh:List Int} {w:Bool}:SB (b4r sh w):=a8y c51
theorem d44 {op:Int} {args:List Int} {ins:List Ds}:(opR op args ins).2.snt:=by
 have b3:SB (bad 3):=c50 (by decide)
 have b5:SB (bad 5):=c50 (by decide)
 have b6:SB (bad 6):=c50 (by decide)
 show SB (opR op args ins)
 unfold opR
 refine a54 (a54 ?_ b6) b5
 refine a54 (a8y (a8y (a54 (a54 c01 b3) b6))) ?_
 refine a54 (a8y (a8y (a54 (a54 (a54 c01 b6) b3) b6))) ?_
 refine a54 (a8y (a54 (a54 (a54 c51 b6) b3) b6)) ?_
 refine a54 (c00 (a54 c01 b6)) ?_
 refine a54 (a8y (a8y (a54 c51 b6))) ?_
 refine a54 (a8y (a54 c51 b6)) ?_
 exact c00 (a54 b6 (a54 c51 b3))
def Around (G:GG) (bk:Nat->Nat×Nat):Prop:=(∀ (k:Int) (g:Nat),g < 21->ACalls pg G a4j [li k,a0t bk (.s g)] (a0t bk (.at k (.s g))))/\∀ (k q:Int) (g:Nat),g < 21->ACalls pg G a4j [li k,a0t bk (.at q (.s g))] (a0t bk (.at k (.s g)))
def Er.wb (e:Er):Prop:=e= .nil\/(∃ g,g < 21/\e= .s g)\/∃ p g,g < 21/\e= .at p (.s g)
theorem Er.snt.wb {e:Er} (h:e.snt):e.wb:=h.elim .inl fun h=> .inr (.inl h)
theorem Around.ofw {G:GG} {bk:Nat->Nat×Nat} (h:Around G bk) {e:Er} (he:e.wb) (hn:e.isNil=false) (k:Int):ACalls pg G a4j [li k,a0t bk e] (a0t bk (atE k e)):=by
 rcases he with rfl | ⟨g,hg,rfl⟩ | ⟨q,g,hg,rfl⟩
 ·simp [Er.isNil] at hn
 ·exact h.1 k g hg
 ·exact h.2 k q g hg
theorem Around.of {G:GG} {bk:Nat->Nat×Nat} (h:Around G bk) {e:Er} (he:e.snt) (hn:e.isNil=false) (k:Int):ACalls pg G a4j [li k,a0t bk e] (a0t bk (atE k e)):=h.ofw he.wb hn k
theorem c54 {k:Int} {e:Er}:(atE k e).isNil=e.isNil:=by cases e<;>rfl
theorem b5z {α:Type} {f:α->Er}:∀ {xs:List α} {k:Int},(b5y f xs k).isNil=true->∀ x∈xs,(f x).isNil=true
 | [],_,_,x,hx=>by simp at hx
 | y::ys,k,h,x,hx=>by
  simp only [b5y] at h
  cases hy:(f y).isNil
  ·rw [hy,if_neg (by simp),c54,hy] at h; cases h
  ·rw [hy,if_pos rfl] at h
   rcases List.mem_cons.1 hx with rfl | hx
   ·exact hy
   ·exact b5z h x hx
theorem d47 {a b:Er} (h:(orE a b).isNil=true):a.isNil=true/\b.isNil=true:=by
 unfold orE at h
 cases ha:a.isNil
 ·rw [ha,if_neg (by simp),ha] at h; cases h
 ·rw [ha,if_pos rfl] at h; exact ⟨rfl,h⟩
theorem c5e {p:Pl} (h:(a6t p).isNil=true):p.views.length<=128/\p.code.length<=2048/\(0<=p.size/\p.size<=65536)/\(∀ v∈p.views,0<=v.off/\v.off+b81 v.shape v.wide<=p.size/\(a1a v.shape).isNil=true):=by
 unfold a6t at h
 split at h
 ·cases h
 ·split at h
  ·cases h
  ·refine ⟨by omega,by omega,by omega,fun v hv=> ?_⟩
   have h1:=b5z (d47 h).1 v hv
   unfold e63 at h1
   split at h1
   ·split at h1
    ·exact ⟨by omega,by omega,by assumption⟩
    ·cases h1
   ·rename_i hn; exact absurd h1 hn
theorem PlL.b {p:Pl} (h:PlL p) (hP:(a6t p).isNil=true):PlB p:=by
 have hf:=c5e hP
 refine ⟨h.views,h.consts,h.weights,h.code,fun v hv=>⟨h.v v hv,?_⟩,h.c,h.w⟩
 have:=hf.2.2.2 v hv
 have:=c4b v.shape v.wide
 omega
end
end Go.Ideal.Tryz
end
section
namespace Go.Ideal.Tryz
open Go.RowKit Go.Extern.Stop Go.Stop Go.Extern Go.Proofs
abbrev hnd:Value:= .iface 137 (.agg #[.pointer (some ⟨22,38,none⟩)])
theorem c16 {w:World} {a:Addr} {v:Value} (h:w.cell? a=some v):a.block < w.heap.size:=by
 rcases Nat.lt_or_ge a.block w.heap.size with h1 | h1
 ·exact h1
 ·simp [World.cell?,Array.getElem?_eq_none h1] at h
theorem a1d {w:World} {o:Obj}:(w.alloc o).heap.size=w.heap.size+1:=Array.size_push _
theorem c06 (k:Int) (a:Addr) (w:World) (hg:w.cell? ⟨21,0,none⟩=some hnd) :
  Calls Go.Proofs.Tryz.prog 43 #[.int .i64 k,.iface 148 (.pointer (some a))] w fun ev w'=>∃ b o1 o2 o3 t,w'=((((w.alloc (.cells #[.pointer none] 83)).alloc o1).alloc o2).alloc o3).alloc (.cells #[.int .i64 k,.iface 148 (.pointer (some a))] t)/\b=w.heap.size+1+1+1+1/\ev= .returned (.iface 83 (.pointer (some ⟨b,0,none⟩))):=by
 have hlt:21 < w.heap.size:=c16 hg
 have hgA:(w.alloc (.cells #[.pointer none] 83)).cell? ⟨21,0,none⟩=some hnd:=by
  rw [World.cell?_alloc_lt _ _ ⟨21,0,none⟩ hlt]; exact hg
 have htA:(w.alloc (.cells #[.pointer none] 83)).cell? ⟨w.heap.size,0,none⟩=some (.pointer none):=by simp
 have hfA:(w.alloc (.cells #[.pointer none] 83)).frozen? ⟨w.heap.size,0,none⟩=false:=by simp
 go_enter Go.Proofs.Tryz.func43,Go.Proofs.Tryz.ntmps43
 go_wp2_with (go_at_call 66; refine (c4k _ _ (.pointer none) _ hgA htA hfA).mono ?_; rintro e w' ⟨rfl,rfl⟩)
 go_ret
 exact ⟨_,_,_,_,_,rfl,rfl,rfl⟩
theorem c37 (k:Int) (eb eo:Nat) (xa:Addr) (w:World) (hg:w.cell? ⟨21,0,none⟩=some hnd) (he:w.cell? ⟨eb,eo+1,none⟩=some (.iface 148 (.pointer (some xa)))) :
  Calls Go.Proofs.Tryz.prog 43 #[.int .i64 k,.iface 83 (.pointer (some ⟨eb,eo,none⟩))] w fun ev w'=>∃ b o0 o1 o2 o3 o4 t,w'=(((((w.alloc o0).alloc o1).alloc o2).alloc o3).alloc o4).alloc (.cells #[.int .i64 k,.iface 148 (.pointer (some xa))] t)/\b=w.heap.size+1+1+1+1+1/\ev= .returned (.iface 83 (.pointer (some ⟨b,0,none⟩))):=by
 have hlt:21 < w.heap.size:=c16 hg
 have hle:eb < w.heap.size:=c16 he
 have hgA:(w.alloc (.cells #[.pointer none] 83)).cell? ⟨21,0,none⟩=some hnd:=by
  rw [World.cell?_alloc_lt _ _ ⟨21,0,none⟩ hlt]; exact hg
 have htA:(w.alloc (.cells #[.pointer none] 83)).cell? ⟨w.heap.size,0,none⟩=some (.pointer none):=by simp
 have hfA:(w.alloc (.cells #[.pointer none] 83)).frozen? ⟨w.heap.size,0,none⟩=false:=by simp
 have hx:∀ o0 o1 o2 o3 o4,(((((w.alloc o0).alloc o1).alloc o2).alloc o3).alloc o4).cell? ⟨eb,eo+1,none⟩=some (.iface 148 (.pointer (some xa))):=fun o0 o1 o2 o3 o4=>by
  rw [World.cell?_alloc_lt _ _ ⟨eb,eo+1,none⟩ (by simp only [a1d]; omega),World.cell?_alloc_lt _ _ ⟨eb,eo+1,none⟩ (by simp only [a1d]; omega),World.cell?_alloc_lt _ _ ⟨eb,eo+1,none⟩ (by simp only [a1d]; omega),World.cell?_alloc_lt _ _ ⟨eb,eo+1,none⟩ (by simp only [a1d]; omega),World.cell?_alloc_lt _ _ ⟨eb,eo+1,none⟩ hle]; exact he
 go_enter Go.Proofs.Tryz.func43,Go.Proofs.Tryz.ntmps43
 go_wp2_with (go_at_call 66; refine (c6v _ _ (.pointer none) _ hgA htA hfA).mono ?_; rintro e w' ⟨rfl,rfl⟩)
 go_ret
 exact ⟨_,_,_,_,_,_,_,rfl,rfl,rfl⟩
theorem a16 {w:World} {o:Obj} {b:Nat} (h:b < w.heap.size):(w.alloc o).heap[b]? =w.heap[b]? :=by
 show (w.heap.push o)[b]? =_
 rw [Array.getElem?_push,if_neg (Nat.ne_of_lt h)]
theorem b5o {G:GG} {bk:Nat->Nat×Nat} {w w' W:World} {A Fa:BS} {k:Int} {g t:Nat} (hw:w'=W.alloc (.cells #[.int .i64 k,.iface c5p (.pointer (some ⟨(bk g).1,(bk g).2,none⟩))] t)) (h1:w.heap.size<=W.heap.size) (h2:W.os=w.os) (h3:W.tape=w.tape) (h4:W.output=w.output) (h5:∀ b,b < w.heap.size->W.heap[b]? =w.heap[b]?) :
  Ret w A Fa w' (a0t bk (.at k (.s g))) (.iface f84 (.pointer (some ⟨W.heap.size,0,none⟩))):=by
 subst hw
 refine ⟨by rw [a1d]; omega,h2,h3,h4,fun b hb _=>by rw [a16 (by omega)]; exact h5 b hb,noB,fun _ h=>h.elim,?_⟩
 simp only [a0t,R]
 refine ⟨_,rfl,W.heap.size,0,[.int .i64 k,.iface c5p (.pointer (some ⟨(bk g).1,(bk g).2,none⟩))],rfl,⟨by rw [a1d]; omega,fun h=>h,.inr (.inr h1)⟩,fun u hu=> ?_,?_,fun i u hu=> ?_⟩
 ·simp at hu
  rcases hu with rfl | rfl<;>rfl
 ·simp only [RL,R]
  exact ⟨_,_,rfl,noB,noB,fun _ h=>h,fun _ h=>h,fun _ h=>h.elim,rfl,_,_,rfl,noB,noB,fun _ h=>h,fun _ h=>h,fun _ h=>h.elim,rfl,rfl⟩
 ·rw [Nat.zero_add]
  have e:∀ j,(W.alloc (.cells #[.int .i64 k,.iface c5p (.pointer (some ⟨(bk g).1,(bk g).2,none⟩))] t)).cell? ⟨W.heap.size,j,none⟩=#[.int .i64 k,.iface c5p (.pointer (some ⟨(bk g).1,(bk g).2,none⟩))][j]? :=fun j=>by
   have:(W.alloc (.cells #[.int .i64 k,.iface c5p (.pointer (some ⟨(bk g).1,(bk g).2,none⟩))] t)).heap[W.heap.size]? =some (.cells #[.int .i64 k,.iface c5p (.pointer (some ⟨(bk g).1,(bk g).2,none⟩))] t):=by
    show (W.heap.push _)[W.heap.size]? =_
    rw [Array.getElem?_push,if_pos rfl]
   simp only [World.cell?,this,Option.isSome_none,Bool.false_eq_true,if_false]
  rw [e]
  rcases i with _ | _ | i
  ·exact hu
  ·exact hu
  ·simp at hu
theorem b8s {G:GG} {bk:Nat->Nat×Nat} (hh:G.hs=[(21,hnd)]):Around G bk:=by
 have key:∀ {w:World},(∀ g v,G.at g v->GC G w g v/\g < w.heap.size)->w.cell? ⟨21,0,none⟩=some hnd:=fun h=>by
  obtain ⟨⟨c,t,fz,h1,h2,_⟩,_⟩:=h 21 hnd (.inr (by rw [hh]; simp))
  simpa [World.cell?,h1] using h2
 constructor
 ·intro k g hg w args A ow hsz hA how hG hpre
  obtain ⟨l⟩:=args
  match l,hsz with
  | [x,y],_=>
   have h0:=hpre 0 _ rfl
   have h1:=hpre 1 _ rfl
   rw [show (Array.mk [x,y]).getD 0 undef=x from rfl] at h0
   rw [show (Array.mk [x,y]).getD 1 undef=y from rfl] at h1
   simp only [a0t,R] at h0 h1
   subst h0 h1
   refine (c06 k _ w (key fun g v h=>⟨(hG g v h).1,(hG g v h).2.1⟩)).mono ?_
   rintro e w' ⟨b,o1,o2,o3,t,hw,rfl,rfl⟩
   refine ⟨_,rfl,?_⟩
   have:=b5o (G:=G) (bk:=bk) (w:=w) (A:=A) (Fa:=fun b=>ow b≠none) (k:=k) (g:=g) hw (by simp only [a1d]; omega) rfl rfl rfl (fun b hb=>by
    rw [a16 (by simp only [a1d]; omega),a16 (by simp only [a1d]; omega),a16 (by simp only [a1d]; omega),a16 (by omega)])
   simpa only [a1d] using this
 ·intro k q g hg w args A ow hsz hA how hG hpre
  obtain ⟨l⟩:=args
  match l,hsz with
  | [x,y],_=>
   have h0:=hpre 0 _ rfl
   have h1:=hpre 1 _ rfl
   rw [show (Array.mk [x,y]).getD 0 undef=x from rfl] at h0
   rw [show (Array.mk [x,y]).getD 1 undef=y from rfl] at h1
   simp only [a0t,R,RL] at h0 h1
   obtain ⟨u,rfl,b,o,vs,rfl,hb,hc,⟨v1,vs1,rfl,_,_,_,_,_,rfl,v2,vs2,rfl,_,_,_,_,_,rfl,rfl⟩,hcell⟩:=h1
   subst h0
   refine (c37 k b (o+0) _ w (key fun g v h=>⟨(hG g v h).1,(hG g v h).2.1⟩) (hcell 1 _ rfl)).mono ?_
   rintro e w' ⟨b',o0,o1,o2,o3,o4,t,hw,rfl,rfl⟩
   refine ⟨_,rfl,?_⟩
   have:=b5o (G:=G) (bk:=bk) (w:=w) (A:=A) (Fa:=fun b=>ow b≠none) (k:=k) (g:=g) hw (by simp only [a1d]; omega) rfl rfl rfl (fun b hb=>by
    rw [a16 (by simp only [a1d]; omega),a16 (by simp only [a1d]; omega),a16 (by simp only [a1d]; omega),a16 (by simp only [a1d]; omega),a16 (by omega)])
   simpa only [a1d] using this
end Go.Ideal.Tryz
end
section
namespace Go.Ideal
open Go.ChangeShapes Go.RowKit Classical
section
variable {H:Type} {e:TypeId×Value->H} {P:Program} {w:World}
def Rd (e:TypeId×Value->H) (P:Program) (w:World) (T:Type) (t:TypeId) (enc:T->List AV) (ok:T->Prop):Prop:=
 ∀ (fuel:Nat) (cs:List Value) (d:DataW H) (ps:List MemPlace),DataW.trod e P w 0 (fun _=>true) true fuel t cs=some (d,ps)->(d.weights P t).all (· <=reachBytes)=true->∃ x,ok x/\RL w (fun b=>b < w.heap.size) (enc x) noQ noB cs/\C1 cs
theorem a93 {M:BS} {k:AV} {v:Value} (h:R w M k noQ noB v):RL w M [k] noQ noB [v]:=by
 simp only [RL]
 exact ⟨v,[],rfl,noB,noB,fun _ h=>h,fun _ h=>h,fun _ h=>h.elim,h,rfl⟩
theorem Rd.int {t:TypeId} (ht:P.underlying t=some (.int .i64)):Rd e P w Int t (fun n=>[.lit (.int .i64 n)]) (fun n=> -9223372036854775808<=n/\n<=9223372036854775807):=by
 intro fuel cs d ps h hw
 obtain ⟨n,rfl,h1,h2⟩:=DataW.trod_int ht h
 refine ⟨n,?_,a93 (by simp only [R]),fun u hu=>by simp at hu; subst hu; rfl⟩
 simp only [Lit.wf,decide_eq_true_eq,Bool.and_eq_true] at h2
 first | exact h2 | (obtain ⟨a,b⟩:=h2; simp [IntKind.wrap_i64] at *; omega)
theorem Rd.bool {t:TypeId} (ht:P.underlying t=some .bool):Rd e P w Bool t (fun n=>[.lit (.bool n)]) (fun _=>True):=by
 intro fuel cs d ps h hw
 obtain ⟨n,rfl,h1⟩:=DataW.trod_bool ht h
 exact ⟨n,trivial,a93 (by simp only [R]),fun u hu=>by simp at hu; subst hu; rfl⟩
theorem a87 {u:TypeId} {p:Nat->Bool}:∀ {ds:List (DataW H)},(DataW.weightsAll P u ds).all p=true->∀ d∈ds,(d.weights P u).all p=true
 | [],_,d,hd=>by simp at hd
 | x::xs,h,d,hd=>by
  simp only [DataW.weightsAll,List.all_append,Bool.and_eq_true] at h
  rcases List.mem_cons.1 hd with rfl | hd
  ·exact h.1
  ·exact a87 h.2 d hd
theorem cells?_cell {a:Addr} {n:Nat} {cs:List Value} (h:w.cells? 0 a n=some cs):cs.length=n/\∀ i u,cs[i]? =some u->w.cell? (a.add i)=some u:=by
 unfold World.cells? at h
 rw [if_pos (Nat.zero_le _)] at h
 have key:∀ (l:List Nat) (r:List Value),l.mapM (fun i=>w.cell? (a.add i))=some r->r.length=l.length/\∀ (i j:Nat) (u:Value),l[i]? =some j->r[i]? =some u->w.cell? (a.add j)=some u:=by
  intro l
  induction l with
  | nil=>intro r h; simp at h; subst h; exact ⟨rfl,fun i j u hi=>by simp at hi⟩
  | cons x l ih=>
   intro r h
   simp only [List.mapM_cons,Option.bind_eq_bind,Option.pure_def,Option.bind_eq_some_iff,Option.some.injEq] at h
   obtain ⟨y,hy,ys,hys,rfl⟩:=h
   obtain ⟨h1,h2⟩:=ih ys hys
   refine ⟨by simp [h1],fun i j u hi hu=> ?_⟩
   cases i with
   | zero=>simp at hi hu; subst hi; subst hu; exact hy
   | succ i=>exact h2 i j u (by simpa using hi) (by simpa using hu)
 obtain ⟨h1,h2⟩:=key _ _ h
 refine ⟨by simpa using h1,fun i u hu=>h2 i i u ?_ hu⟩
 have:i < cs.length:=(List.getElem?_eq_some_iff.1 hu).1
 rw [h1] at this
 simp at this
 simp [this]
theorem b8q (a:Addr):a.add 0=a:=by simp [Addr.add]
theorem c9g (b o i:Nat):(⟨b,o,none⟩:Addr).add i=⟨b,o+i,none⟩:=by
 simp only [Addr.add]; split
 ·subst_vars; rfl
 ·rfl
theorem d22 (a:Addr) (m i:Nat):(a.add m).add i=a.add (m+i):=by
 obtain ⟨b,o,s⟩:=a
 simp only [Addr.add]
 by_cases h1:m=0
 ·subst h1; simp
 ·by_cases h2:i=0
  ·subst h2; simp [h1]
  ·simp [h1,h2,Nat.add_assoc]
theorem Rd.slice {t u:TypeId} {T:Type} {enc:T->List AV} {ok:T->Prop} (ht:P.underlying t=some (.slice u)) (hb:0 < P.bytesOf u) (h:Rd e P w T u enc ok) (hlen:∀ x,(enc x).length=P.cellsOf u) :
  Rd e P w (List T) t (fun xs=>[.sl xs.length (xs.flatMap enc)]) (fun xs=>xs.length<=reachBytes/\∀ x∈xs,ok x):=by
 intro fuel cs d ps hd hw
 rcases DataW.trod_slice ht hd with ⟨rfl,_⟩ | ⟨a,len,cap,elems,rest,n,_,rfl,hx,_,hlc,_,hel,hi,_⟩
 ·refine ⟨[],⟨by simp [reachBytes],fun x hx=>by simp at hx⟩,a93 ?_,fun u hu=>by simp at hu; subst hu; rfl⟩
  simp only [R,RL,List.flatMap_nil,List.length_nil]
  exact ⟨none,0,rfl,Nat.le_refl _,[],fun _ h=>by simp at h,rfl,.inl rfl⟩
 ·simp only [Prod.mk.injEq] at hx
  obtain ⟨rfl,_⟩:=hx
  simp only [DataW.weights,ht,List.all_cons,List.all_append,Bool.and_eq_true,decide_eq_true_eq,List.length_map] at hw
  obtain ⟨w1,w2,_⟩:=hw
  have hm:∀ m,m<=len->∃ xs:List T,xs.length=m/\(∀ x∈xs,ok x)/\∃ vs,vs.length=m*P.cellsOf u/\RL w (fun b=>b < w.heap.size) (xs.flatMap enc) noQ noB vs/\C1 vs/\∀ i v,vs[i]? =some v->w.cell? (a.add i)=some v:=by
   intro m
   induction m with
   | zero=>intro _; exact ⟨[],rfl,fun x hx=>by simp at hx,[],by simp,by simp [RL],fun _ h=>by simp at h,fun i v hv=>by simp at hv⟩
   | succ m ih=>
    intro hml
    obtain ⟨xs,l1,ok1,vs,l2,r1,c1,cell1⟩:=ih (by omega)
    have hmi:=hi m (by omega)
    have hme:elems[m]? =some elems[m]:=by simp [show m < elems.length by omega]
    rw [hme] at hmi
    cases hc:w.cells? 0 (a.add (m*P.cellsOf u)) (P.cellsOf u) with
    | none=>rw [hc] at hmi; cases hmi
    | some cs=>
     rw [hc] at hmi
     simp only [Option.bind_some] at hmi
     obtain ⟨x,okx,rx,cx⟩:=h n cs elems[m].1 elems[m].2 hmi (a87 w2 _ (List.mem_map.2 ⟨_,List.getElem_mem _,rfl⟩))
     obtain ⟨g1,g2⟩:=cells?_cell hc
     refine ⟨xs++[x],by simp [l1],fun y hy=> ?_,vs++cs,by rw [List.length_append,l2,g1,Nat.add_mul,Nat.one_mul],?_,fun y hy=> ?_,fun i v hv=> ?_⟩
     ·rcases List.mem_append.1 hy with hy | hy
      ·exact ok1 y hy
      ·simp at hy; subst hy; exact okx
     ·rw [List.flatMap_append]
      simp only [List.flatMap_cons,List.flatMap_nil,List.append_nil]
      exact a19 (fun b hb=>hb.elim (fun h=>h) fun h=>h) (a1w r1 rx fun b hb=>hb.elim)
     ·rcases List.mem_append.1 hy with hy | hy
      ·exact c1 y hy
      ·exact cx y hy
     ·by_cases hiv:i < vs.length
      ·rw [List.getElem?_append_left hiv] at hv
       exact cell1 i v hv
      ·rw [List.getElem?_append_right (by omega)] at hv
       have:=g2 _ v hv
       have e:(a.add (m*P.cellsOf u)).add (i - vs.length)=a.add i:=by
        rw [d22]
        congr 1
        rw [l2] at hiv ⊢
        omega
       rw [e] at this
       exact this
  obtain ⟨xs,l1,ok1,vs,l2,r1,c1,cell1⟩:=hm len (Nat.le_refl _)
  refine ⟨xs,⟨?_,ok1⟩,a93 ?_,fun y hy=>by simp at hy; subst hy; rfl⟩
  ·rw [l1,<-hel]
   have:elems.length<=(elems.length+rest.length)*P.bytesOf u:=by
    calc elems.length<=elems.length+rest.length:=Nat.le_add_right _ _
     _=(elems.length+rest.length)*1:=(Nat.mul_one _).symm
     _<=_:=Nat.mul_le_mul_left _ hb
   omega
  ·simp only [R]
   refine ⟨some a,cap,by rw [l1],by omega,vs,c1,r1,?_⟩
   cases vs with
   | nil=>exact .inl rfl
   | cons v0 vs'=>
    have h0:=cell1 0 v0 rfl
    obtain ⟨b,o,sp⟩:=a
    have hsp:sp=none:=by
     cases sp with
     | none=>rfl
     | some s=>rw [b8q] at h0; simp [World.cell?] at h0; split at h0<;>cases h0
    subst hsp
    refine .inr ⟨b,o,rfl,?_,fun i u hu=> ?_⟩
    ·by_cases hbs:b < w.heap.size
     ·exact hbs
     ·rw [b8q] at h0
      simp only [World.cell?] at h0
      rw [show w.heap[b]? =none by simp; omega] at h0
      cases h0
    ·have:=cell1 i u hu
     rw [c9g] at this
     exact this
theorem Rd.slice1 {t u:TypeId} {T:Type} {enc:T->AV} {ok:T->Prop} (ht:P.underlying t=some (.slice u)) (hb:0 < P.bytesOf u) (hc:P.cellsOf u=1) (h:Rd e P w T u (fun x=>[enc x]) ok) :
  Rd e P w (List T) t (fun xs=>[.sl xs.length (xs.map enc)]) (fun xs=>xs.length<=reachBytes/\∀ x∈xs,ok x):=by
 have:=Rd.slice ht hb h (fun x=>by simp [hc])
 intro fuel cs d ps h1 h2
 obtain ⟨x,a,b,c⟩:=this fuel cs d ps h1 h2
 refine ⟨x,a,?_,c⟩
 have e1:∀ l:List T,l.flatMap (fun x=>[enc x])=l.map enc:=fun l=>by induction l<;>simp_all
 simp only [e1] at b
 exact b
end
theorem b9h {P:Program} {G:GG} {f:FuncId} {W:World} {args:Array Value} {pre:List AV} (hA:ACalls P G f pre (.lit (.bool true))) (hsz:args.size=pre.length) (hG:∀ g v,G.at g v->GC G W g v/\g < W.heap.size)
  (hpre:∀ i av,pre[i]? =some av->R W (fun b=>b < W.heap.size) av noQ noB (args.getD i undef)):Calls P f args W (fun e W'=>e= .returned (.bool true)/\Below W.heap.size W W'):=by
 refine (hA W args (fun b=>b < W.heap.size) (fun _=>none) hsz (fun b hb=>⟨hb,rfl⟩) (fun b i hb=>by cases hb) (fun g v hg=>⟨(hG g v hg).1,(hG g v hg).2,rfl⟩) (fun i av hi=> ?_)).mono ?_
 ·exact a12 (fun b hb=>hb.elim) (hpre i av hi)
 ·rintro ex W' ⟨v,rfl,hr⟩
  obtain ⟨F,_,hv⟩:=hr.own
  simp only [R] at hv
  subst hv
  exact ⟨rfl,hr.os,hr.tape,hr.output,hr.le,fun k hk=>hr.frame k hk (by simp)⟩
section
variable {H:Type} {enc:TypeId×Value->H} {P:Program}
theorem b06 (hl:laidOutB P=true) {W W':World} (hb:Below W.heap.size W W') {sp:Nat->Bool}:∀ {ts:List TypeId} {vs:List Value} {ds:List (DataW H)} {ps:List MemPlace},(∀ t∈ts,P.readableRec t=true/\t < P.types.size)->DataW.TrodAll enc P W 0 (fun _=>true) true ts vs ds ps->
  (∀ x∈ps,x.block < W.heap.size)->(∀ x∈ps,sp x.block=true)->DataW.TrodAll enc P W' 0 sp true ts vs ds ps
 | [],_,_,_,_,h,_,_=>by
  obtain ⟨rfl,rfl,rfl⟩:=trodAll_nil h
  exact trodAll_mk0
 | t::ts,_,_,_,ht,h,hlt,hsp=>by
  obtain ⟨v,vs,d,ds,p,q,rfl,rfl,rfl,h1,h2⟩:=trodAll_cons h
  exact ⟨p,q,WideElems.Trod_stays hl (ht t (by simp)).1 (ht t (by simp)).2 h1 (fun x hx=>hb.same (hlt x (by simp [hx]))) (fun x hx=>hsp x (by simp [hx])),
   b06 hl hb (fun u hu=>ht u (by simp [hu])) h2 (fun x hx=>hlt x (by simp [hx])) (fun x hx=>hsp x (by simp [hx])),rfl⟩
theorem c3k {f:Func} {s:ChangeSpec} {apart fresh handsOn again:Bool} {W W':World} {args:Array Value} {ds gs:List (DataW H)} {before:List MemPlace} {tb:TypeId}
  (hl:laidOutB P=true) (ht:∀ t∈f.params.toList,P.readableRec t=true/\t < P.types.size) (hr:f.resultTypes=#[tb]) (htb:P.underlying tb=some .bool) (hvars:s.vars=[]) (hfn:s.fn H (ds++[])={ results:=[.lit (.bool true)],args:=ds })
  (hW:DataW.Whole enc P f.params.toList s.vars apart W args.toList ds gs before) (hb:Below W.heap.size W W'):s.post enc P f apart fresh handsOn again W args (.bool true) W':=by
 have hW0:=hW
 obtain ⟨p,q,hA,hV,hpq,hz,hn⟩:=hW
 rw [hvars] at hV
 obtain ⟨rfl,rfl⟩:=trodVars_none hV
 have hp:before=p:=by simpa using hpq
 subst hp
 have hlt:∀ x∈before,x.block < W.heap.size:=fun x hx=>hW0.lt x hx
 have hargs:∀ sp:Nat->Bool,(∀ p∈before,sp p.block=true)->DataW.TrodAll enc P W' 0 sp true f.params.toList args.toList ds before:=fun sp hsp=>b06 hl hb ht hA hlt hsp
 have hres:∀ (b:Nat) (sp:Nat->Bool) (hd:Bool),DataW.TrodAll enc P W' b sp hd f.resultTypes.toList ((Value.bool true).resultList f.resultTypes.size) [.lit (.bool true)] []:=fun b sp hd=>by
  rw [hr]; exact trodAll_mk1 (shut_bool htb true)
 have hv0:∀ sp:Nat->Bool,DataW.TrodVars enc P W' sp s.vars [] []:=fun sp=>by rw [hvars]; rfl
 refine ⟨ds,[],before,[],before,[],hW0,?_,?_,?_,World.keptBut_mono (fun p hp=>⟨hp,Or.inr (Or.inl hp)⟩) (hb.frame _),fun _=> ?_⟩
 ·rw [hfn]; exact hres _ _ _
 ·rw [hfn]; exact hargs _ fun x hx=>by simpa using hlt x hx
 ·rw [hfn]; exact hv0 _
 ·refine ⟨ok_one hr rfl (by unfold Value.okWide; rw [htb]; simp [Cell.okWide,Cell.ok,htb]),[.lit (.bool true)]++ds,[],([]++before)++[],⟨[]++before,[],trodAll_append (hargs _ fun _ _=>rfl) (hres _ _ _),hv0 _,rfl,?_,?_⟩,?_⟩
  ·intro b off hp
   have hp':MemPlace.cell b off∈before:=by simpa using hp
   rw [hb.frozen (p:=⟨b,off,none⟩) (hlt _ hp')]
   exact hz b off hp'
  ·intro ha
   simpa using hn ha
  ·intro p hp _
   simpa using hp
end
end Go.Ideal
end
section
namespace Go.Ideal.Tryz
open Go.ChangeShapes Go.RowKit Classical
def c8r:DataW Unit->Option (List UInt8)
 | .iface n (.ptr (.agg [.lit (.string s)])) => if n == "*errors.errorString" then some s else none
 | _=>none
theorem c2s {d : DataW Unit} {s : List UInt8} (h : c8r d = some s) : d = .iface "*errors.errorString" (.ptr (.agg [.lit (.string s)])) := by
 unfold c8r at h
 split at h
 ·split at h
  ·rename_i hn
   simp only [beq_iff_eq] at hn
   injection h with h
   rw [hn,h]
  ·cases h
 ·cases h
noncomputable def b6i (laid:List (String×DataW Unit)) (g:Nat):Option (List UInt8):=laid.findSome? fun x=>if pg.globalNamed x.1==some g then c8r x.2 else none
noncomputable def c8c (L:List Nat) (laid:List (String×DataW Unit)):Bool:=L.all fun g=>(b6i laid g).isSome&&L.all fun h=>g==h|| !(b6i laid g==b6i laid h)
abbrev c2o:List Nat:=[0,1,2,3,4,5,6,7,8,9,10,11,12,13,14,15,16,17,18,19,20]
noncomputable def d5j (laid:List (String×DataW Unit)):Bool:=c8c c2o laid
theorem b16 {W:World}:∀ {laid:List (String×DataW Unit)} {ps:List MemPlace},DataW.LaidVars pg W laid ps->∀ x∈laid,∃ g t cs fuel p,pg.globalNamed x.1=some g/\(pg.globals[g]?).map (·.type)=some t/\W.var? pg x.1=some cs/\
  DataW.trod (fun _=>()) pg W 0 (fun _=>true) false fuel t cs.toList=some (x.2,p)/\(∀ y∈MemPlace.row ⟨g,0,none⟩ cs.size++p,y∈ps)
 | [],_,_,x,hx=>by simp at hx
 | (n,d)::r,ps,h,x,hx=>by
  obtain ⟨g,t,cs,fuel,p,q,h1,h2,h3,h4,h5,rfl⟩:=h
  rcases List.mem_cons.1 hx with rfl | hx
  ·exact ⟨g,t,cs,fuel,p,h1,h2,h3,h4,fun y hy=>List.mem_append_left _ hy⟩
  ·obtain ⟨g',t',cs',f',p',k1,k2,k3,k4,k5⟩:=b16 h5 x hx
   exact ⟨g',t',cs',f',p',k1,k2,k3,k4,fun y hy=>List.mem_append_right _ (k5 y hy)⟩
theorem f4v:(c2o.all fun g=>(pg.globals[g]?).map (·.type)==some 38)=true:=by kernel_rfl
theorem g3z:∃ ms,pg.underlying 38=some (.interface ms):=by
 have h:(match pg.underlying 38 with | some (.interface _)=>true | _=>false)=true:=by kernel_rfl
 split at h
 ·rename_i ms hm; exact ⟨ms,hm⟩
 ·cases h
theorem f7v (u : TypeId) (hu : pg.typeName? 3 u = some "*errors.errorString") : u = 148 :=
 typeName_ptr_named (nm := "errors.errorString") (by kernel_rfl) (by kernel_rfl) (by decide) u hu
theorem f8v:pg.underlying 148=some (.pointer 169):=by kernel_rfl
theorem f8w:∃ f:Field,pg.underlying 169=some (.struct #[f])/\f.offset=0/\pg.underlying f.type=some .string/\pg.cellsOf f.type=1:=by
 have h:(match pg.underlying 169 with | some (.struct fs)=>fs.size==1&&fs.all (fun f=>f.offset==0&&(match pg.underlying f.type with | some .string=>true | _=>false)&&pg.cellsOf f.type==1) | _=>false)=true:=by kernel_rfl
 split at h
 ·rename_i fs hm
  simp only [Bool.and_eq_true,beq_iff_eq] at h
  obtain ⟨h1,h2⟩:=h
  obtain ⟨f,hf⟩:∃ f,fs=#[f]:=by
   obtain ⟨l⟩:=fs
   match l,h1 with
   | [f],_=>exact ⟨f,rfl⟩
  subst hf
  simp at h2
  refine ⟨f,hm,h2.1.1,?_,h2.2⟩
  have:=h2.1.2
  split at this
  ·assumption
  ·cases this
 ·cases h
theorem c9p:pg.cellsOf 169=1:=by kernel_rfl
theorem b7y {L:List Nat} (hL:∀ g∈L,g∈c2o) {hs:List (Nat×Value)} {laid:List (String×DataW Unit)} {W:World} (h:laidMet pg laid W) (hc:c8c L laid=true) (hhs:∀ p∈hs,p.1 < W.heap.size/\∃ cur T fz,W.heap[p.1]? =some (.cells cur T fz)/\cur[0]? =some p.2):∃ (G:GG) (bk:Nat->Nat×Nat),G.hs=hs/\((∀ g,g∈L->G g=some (.iface c5p (.pointer (some ⟨(bk g).1,(bk g).2,none⟩))))/\(∀ g,g∈L->(G (bk g).1).isSome=true)/\(∀ g h,g∈L->h∈L->bk g=bk h->g=h))/\∀ g v,G.at g v->GC G W g v/\g < W.heap.size:=by
 obtain ⟨ps,hl,_,hp⟩:=h
 simp only [c8c,List.all_eq_true,Bool.and_eq_true,Bool.or_eq_true,beq_iff_eq,Bool.not_eq_true',beq_eq_false_iff_ne,ne_eq] at hc
 have key:∀ g,∃ y:Addr×ByteArray,g∈L->(∃ c t,W.heap[g]? =some (.cells c t (0,0))/\c[0]? =some (.iface 148 (.pointer (some y.1))))/\W.cell? y.1=some (.string y.2)/\b6i laid g=some y.2.data.toList/\(∃ c t,W.heap[y.1.block]? =some (.cells c t (0,0))):=by
  intro g
  by_cases hg:g∈L
  ·obtain ⟨text,ht⟩:=Option.isSome_iff_exists.1 (hc g hg).1
   have ht0:=ht
   unfold b6i at ht
   rw [List.findSome?_eq_some_iff] at ht
   obtain ⟨l1,x,l2,hx,hxs,_⟩:=ht
   split at hxs
   ·rename_i hgn
    simp only [beq_iff_eq] at hgn
    obtain ⟨g',t,cs,fuel,p,h1,h2,h3,h4,h5⟩:=b16 hl x (by rw [hx]; simp)
    obtain rfl:g'=g:=by rw [hgn] at h1; injection h1 with h1; exact h1.symm
    have ht26:t=38:=by
     have:=List.all_eq_true.1 f4v g' (hL _ hg)
     simp only [beq_iff_eq] at this
     rw [this] at h2
     injection h2 with h2
     exact h2.symm
    subst ht26
    rw [c2s hxs] at h4
    obtain ⟨ms,hms⟩:=g3z
    obtain ⟨f,hf1,hf2,hf3,hf4⟩:=f8w
    have hvar:∃ t0 fz,W.heap[g']? =some (.cells cs t0 fz):=by
     unfold World.var? at h3
     rw [h1] at h3
     simp only [Option.bind_some] at h3
     split at h3
     ·rename_i c t0 fz hh
      injection h3 with h3
      subst h3
      exact ⟨_,_,hh⟩
     ·cases h3
    obtain ⟨t0,fz,hh⟩:=hvar
    have hg0:∀ u v,cs.toList=[.iface u v]->MemPlace.cell g' 0∈ps/\W.cell? ⟨g',0,none⟩=some (.iface u v):=by
     intro u v hcs
     have hsz:cs.size=1:=by have:=congrArg List.length hcs; simpa using this
     refine ⟨h5 _ (List.mem_append_left _ (by rw [hsz]; simp [MemPlace.row])),?_⟩
     simp only [World.cell?,hh]
     have:cs[0]? =some (.iface u v):=by
      have:=congrArg (·[0]?) hcs
      simpa using this
     simpa using this
    obtain ⟨a,s,e1,e2,e3,_,e5⟩:=errorString_of_trod hms f7v f8v hf1 rfl hf2 hf3 c9p hf4 h4 (fun u v hcs=>by
     obtain ⟨m1,m2⟩:=hg0 u v hcs
     exact (hp _ _ m1).2 u v m2)
    refine ⟨(a,s),fun _=>⟨?_,e2,?_,?_⟩⟩
    ·obtain ⟨m1,m2⟩:=hg0 _ _ e1
     obtain ⟨⟨c,t1,hc1⟩,_⟩:=hp _ _ m1
     refine ⟨c,t1,hc1,?_⟩
     rw [hc1] at hh
     simp only [Option.some.injEq,Obj.cells.injEq] at hh
     obtain ⟨rfl,_,_⟩:=hh
     have:=congrArg (·[0]?) e1
     simpa using this
    ·rw [ht0,e3]
    ·have:=h5 _ (List.mem_append_right _ (show MemPlace.cell a.block (a.off+0)∈p by rw [e5]; simp [MemPlace.row]))
     exact (hp _ _ this).1
   ·cases hxs
  ·exact ⟨default,fun h=>absurd h hg⟩
 obtain ⟨y,hy⟩:=Classical.axiomOfChoice key
 let bk:Nat->Nat×Nat:=fun g=>((y g).1.block,(y g).1.off)
 let Gf:Nat->Option Value:=fun b=>if b∈L\/∃ g,g∈L/\(bk g).1=b then (match W.heap[b]? with | some (.cells c _ _)=>c[0]? | _=>none) else none
 have hspot:∀ g,g∈L->(y g).1=⟨(bk g).1,(bk g).2,none⟩/\∃ c t v,W.heap[(bk g).1]? =some (.cells c t (0,0))/\c[0]? =some v:=by
  intro g hg
  obtain ⟨_,h2,_,c,t,h4⟩:=hy g hg
  simp only [World.cell?,h4] at h2
  split at h2
  ·cases h2
  ·rename_i hs
   refine ⟨?_,c,t,?_⟩
   ·have:(y g).1.spot=none:=by simpa using hs
    simp only [bk]
    cases hyg:(y g).1
    rw [hyg] at this
    simp only at this
    rw [this]
   ·have hlt:(y g).1.off < c.size:=(Array.getElem?_eq_some_iff.1 h2).1
    exact ⟨c[0]'(by omega),h4,by simp⟩
 have strict:∀ b v,Gf b=some v->∃ c t,W.heap[b]? =some (.cells c t (0,0))/\c[0]? =some v:=fun b v hb=>by
  simp only [Gf] at hb
  split at hb
  ·rename_i hor
   have:∃ c t,W.heap[b]? =some (.cells c t (0,0)):=by
    rcases hor with h1 | ⟨g,hg,rfl⟩
    ·obtain ⟨⟨c,t,h1,_⟩,_⟩:=hy b h1
     exact ⟨c,t,h1⟩
    ·obtain ⟨_,c,t,v,h1,_⟩:=hspot g hg
     exact ⟨c,t,h1⟩
   obtain ⟨c,t,h1⟩:=this
   rw [h1] at hb
   simp only at hb
   exact ⟨c,t,h1,hb⟩
  ·cases hb
 refine ⟨⟨Gf,hs⟩,bk,rfl,⟨fun g hg=> ?_,fun g hg=> ?_,fun g h hg hh he=> ?_⟩,fun b v hb=> ?_⟩
 ·obtain ⟨⟨c,t,h1,h2⟩,_⟩:=hy g hg
  simp only [Gf]
  rw [if_pos (.inl hg),h1]
  simp only
  rw [h2,(hspot g hg).1]
 ·obtain ⟨_,c,t,v,h1,h2⟩:=hspot g hg
  simp only [Gf]
  rw [if_pos (.inr ⟨g,hg,rfl⟩),h1]
  simp only
  rw [h2]; rfl
 ·have e1:(y g).1=(y h).1:=by
   rw [(hspot g hg).1,(hspot h hh).1,he]
  obtain ⟨_,k1,k2,_⟩:=hy g hg
  obtain ⟨_,k3,k4,_⟩:=hy h hh
  rw [e1,k3] at k1
  simp only [Option.some.injEq,Value.string.injEq] at k1
  rcases (hc g hg).2 h hh with h5 | h5
  ·exact h5
  ·exact absurd (by rw [k2,k4,k1]) h5
 ·rcases hb with hb | hb
  ·obtain ⟨c,t,h1,h2⟩:=strict b v hb
   exact ⟨⟨c,t,(0,0),h1,h2,fun _=>rfl⟩,(Array.getElem?_eq_some_iff.1 h1).1⟩
  ·obtain ⟨h1,c,t,fz,h2,h3⟩:=hhs _ hb
   refine ⟨⟨c,t,fz,h2,h3,fun hg=> ?_⟩,h1⟩
   obtain ⟨c',t',h4,_⟩:=strict b v hg
   rw [h4] at h2
   simp only [Option.some.injEq,Obj.cells.injEq] at h2
   exact h2.2.2.symm
theorem f4w:∀ g,g∈c2o->gn (cn g)=g:=by decide
theorem c66:∀ g,g < 21->gn g∈c2o:=by decide
theorem e2k:∀ g,g < 21->∀ h,h < 21->gn g=gn h->g=h:=by decide
theorem b2l {laid:List (String×DataW Unit)} {hs:List (Nat×Value)} {W:World} (h:laidMet pg laid W) (hc:d5j laid=true) (hhs:∀ p∈hs,p.1 < W.heap.size/\∃ cur T fz,W.heap[p.1]? =some (.cells cur T fz)/\cur[0]? =some p.2):∃ (G:GG) (bk:Nat->Nat×Nat),G.hs=hs/\Sent G bk/\∀ g v,G.at g v->GC G W g v/\g < W.heap.size:=by
 have key:∀ g,g < 21->g∈c2o:=fun g hg=>by simp; omega
 obtain ⟨G,bk,h0,⟨h1,h2,h3⟩,h4⟩:=b7y (L:=c2o) (hs:=hs) (fun g hg=>hg) h hc hhs
 refine ⟨G,fun c=>bk (gn c),h0,⟨fun g hg=> ?_,fun g hg=>h2 _ (c66 g hg),fun g k hg hk he=>e2k g hg k hk (h3 _ _ (c66 g hg) (c66 k hk) he)⟩,h4⟩
 simp only [f4w g (key g hg)]
 exact h1 g (key g hg)
end Go.Ideal.Tryz
end
section
namespace Go.Proofs.YtlemfkimffoiiaaGreatDoor
open Go Go.ChangeShapes Go.WideShapes Go.RowKit Go.Ideal Go.Ideal.Tryz
theorem own:ownKnob Tryz.prog.godebug=none:=by kernel_rfl
theorem c7c:laidOutB Tryz.prog=true:=by kernel_rfl
noncomputable def low:Nat:=(World.holding Tryz.prog default ⟨#[],#[],[]⟩).heap.size
noncomputable def d0w:List Obj:=(List.range 22).map fun g=> .cells #[.string ⟨((b6i Rows.denWeightsRow.laid g).getD []).toArray⟩] 169 (0,0)
noncomputable def a7y (os:Os):World:=
 let w0:=World.holding Tryz.prog os ⟨d0w.toArray,#[],[]⟩
 { w0 with heap:=((w0.heap.toList.zipIdx).map fun
   | (.cells c t fz,21)=> .cells #[.iface 137 (.agg #[.pointer (some ⟨22,38,none⟩)])] t fz
   | (.cells c t fz,i)=>if i∈([0,1,2,3,4,5,6,7,8,9,10,11,12,13,14,15,16,17,18,19,20]:List Nat) then .cells #[.iface 148 (.pointer (some ⟨low+i,0,none⟩))] t fz else .cells c t fz
   | (o,_)=>o).toArray }
theorem b33 (os:Os) (args:Array Value):((a7y os).forCall (fun _ _=>0) ⟨#[],args,[]⟩).Shaped Tryz.prog:=
 World.shaped_of_RefB (by kernel_rfl) (by kernel_rfl)
theorem hEt : Tryz.prog.globalNamed "errors.errorType" = some 21 := by kernel_rfl
theorem hRt : (Tryz.prog.cutTypes.find? (·.1 == "internal/reflectlite.rtype")).map (·.2) = some 137 := by kernel_rfl
theorem d4g:((List.range 181).filter fun t=>Tryz.prog.rowNamed t [101,114,114,111,114])=[38]:=by kernel_rfl
theorem f5e:Tryz.prog.types.size=181:=by kernel_rfl
abbrev hX : String × DataW Unit := ("errors.errorType", .iface "internal/reflectlite.rtype" (.agg [.ptr (.lit (.string [101, 114, 114, 111, 114]))]))
abbrev hV:Value:= .iface 137 (.agg #[.pointer (some ⟨22,38,none⟩)])
theorem a84 {W:World} (h':handlesMet Tryz.prog [hX] W):21 < W.heap.size/\∃ cur T fz,W.heap[21]? =some (.cells cur T fz)/\cur[0]? =some hV:=by
 obtain ⟨name,u,ty,e1,e2,e3,e4,e5⟩:=h' _ (List.mem_singleton.2 rfl)
 have en:name=[101,114,114,111,114]:=(Option.some.inj e1).symm
 subst en
 obtain rfl:=Option.some.inj (hRt.symm.trans e2)
 have hm:ty∈(List.range 181).filter fun t=>Tryz.prog.rowNamed t [101,114,114,111,114]:=List.mem_filter.2 ⟨List.mem_range.2 (by rw [<-f5e]; exact e3),e4⟩
 rw [d4g] at hm
 obtain rfl:=List.mem_singleton.1 hm
 have hh:typeHandle Tryz.prog 38= .pointer (some ⟨22,38,none⟩):=by kernel_rfl
 rw [hh] at e5
 unfold World.var? at e5
 rw [hEt] at e5
 simp only [Option.bind_some] at e5
 split at e5
 ·rename_i c t0 fz hc
  injection e5 with e5
  subst e5
  exact ⟨(Array.getElem?_eq_some_iff.1 hc).1,_,_,_,hc,rfl⟩
 ·cases e5
end Go.Proofs.YtlemfkimffoiiaaGreatDoor
end
section
namespace Go.Ideal
open Go.ChangeShapes Go.RowKit Classical
section
variable {H:Type} {e:TypeId×Value->H} {P:Program} {w:World}
def RdF (e:TypeId×Value->H) (P:Program) (w:World) (T:Type) (ts:List (TypeId×Nat)) (o total:Nat) (enc:T->List AV) (ok:T->Prop):Prop:=
 ∀ (n:Nat) (cs:List Value) (xs:List (DataW H×List MemPlace)),cs.length=total->xs.length=ts.length->
  (∀ (i:Nat) (p:TypeId×Nat),ts[i]? =some p->DataW.trod e P w 0 (fun _=>true) true n p.1 ((cs.drop p.2).take (P.cellsOf p.1))=xs[i]?)->
  (DataW.weightsEach P (ts.map (·.1)) (xs.map (·.1))).all (· <=reachBytes)=true->∃ x,ok x/\RL w (fun b=>b < w.heap.size) (enc x) noQ noB (cs.drop o)/\C1 (cs.drop o)
theorem RdF.nil {o:Nat}:RdF e P w Unit [] o o (fun _=>[]) (fun _=>True):=by
 intro n cs xs hl _ _ _
 refine ⟨(),trivial,?_,fun u hu=> ?_⟩
 ·rw [List.drop_of_length_le (by omega)]; simp [RL]
 ·rw [List.drop_of_length_le (by omega)] at hu; simp at hu
theorem RdF.cons {T U:Type} {t:TypeId} {k:Nat} {ts:List (TypeId×Nat)} {o total:Nat} {enc:T->List AV} {ok:T->Prop} {enc':U->List AV} {ok':U->Prop} (hk:P.cellsOf t=k) (h:Rd e P w T t enc ok) (hr:RdF e P w U ts (o+k) total enc' ok') :
  RdF e P w (T×U) ((t,o)::ts) o total (fun p=>enc p.1++enc' p.2) (fun p=>ok p.1/\ok' p.2):=by
 intro n cs xs hl hx ht hw
 cases xs with
 | nil=>simp at hx
 | cons y ys=>
  simp only [List.map_cons,DataW.weightsEach,List.all_append,Bool.and_eq_true] at hw
  have h0:=ht 0 (t,o) rfl
  simp only [List.getElem?_cons_zero,hk] at h0
  obtain ⟨x,ox,rx,cx⟩:=h n _ y.1 y.2 h0 hw.1
  obtain ⟨z,oz,rz,cz⟩:=hr n cs ys hl (by simpa using hx) (fun i p hp=>by simpa using ht (i+1) p (by simpa using hp)) hw.2
  have e1:cs.drop o=(cs.drop o).take k++cs.drop (o+k):=by rw [<-List.drop_drop]; exact (List.take_append_drop _ _).symm
  refine ⟨(x,z),⟨ox,oz⟩,?_,fun u hu=> ?_⟩
  ·rw [e1]
   exact a19 (fun b hb=>hb.elim (fun h=>h) fun h=>h) (a1w rx rz fun b hb=>hb.elim)
  ·rw [e1] at hu
   rcases List.mem_append.1 hu with hu | hu
   ·exact cx u hu
   ·exact cz u hu
def c8o (P:Program) (t:TypeId) (l:List (TypeId×Nat)):Bool:=match P.underlying t with
 | some (.struct fs)=>fs.toList.map (fun f=>(f.type,f.offset))==l
 | _=>false
theorem Rd.struct {T:Type} {t:TypeId} {l:List (TypeId×Nat)} {total:Nat} {enc:T->List AV} {ok:T->Prop} (hs:c8o P t l=true) (hc:P.cellsOf t=total) (hF:RdF e P w T l 0 total enc ok):Rd e P w T t enc ok:=by
 intro fuel cs d ps h hw
 unfold c8o at hs
 split at hs
 ·rename_i fs ht
  simp only [beq_iff_eq] at hs
  obtain ⟨xs,n,_,hx,hl,hxl,hf⟩:=DataW.trod_struct ht h
  simp only [Prod.mk.injEq] at hx
  obtain ⟨rfl,_⟩:=hx
  simp only [DataW.weights,ht] at hw
  have:=hF n cs xs (by rw [hl,hc]) (by rw [hxl,<-hs]; simp) (fun i p hp=>by
   rw [<-hs] at hp
   simp only [List.getElem?_map,Option.map_eq_some_iff] at hp
   obtain ⟨f,hfi,rfl⟩:=hp
   exact hf i f (by simpa using hfi)) (by
   rw [<-hs,List.map_map]
   exact hw)
  simpa using this
 ·cases hs
theorem Rd.map {T U:Type} {t:TypeId} {enc:T->List AV} {ok:T->Prop} {enc':U->List AV} {ok':U->Prop} (h:Rd e P w T t enc ok) (f:T->U) (henc:∀ x,enc' (f x)=enc x) (hok:∀ x,ok x->ok' (f x)):Rd e P w U t enc' ok':=by
 intro fuel cs d ps h1 h2
 obtain ⟨x,a,b,c⟩:=h fuel cs d ps h1 h2
 exact ⟨f x,hok x a,by rw [henc]; exact b,c⟩
end
end Go.Ideal
end
section
namespace Go.Proofs.YtlemfkimffoiiaaGreatDoor
open Go Go.ChangeShapes Go.WideShapes Go.RowKit Go.Ideal Go.Ideal.Tryz
section
variable {H:Type} {e:TypeId×Value->H} {w:World}
theorem d2w:Rd e Tryz.prog w (List Int) 22 (fun xs=>[slI xs]) (fun xs=>xs.length<=reachBytes/\∀ x∈xs,-9223372036854775808<=x/\x<=9223372036854775807):=
 Rd.slice1 Tryz.underlying22 (of_decide_eq_true (by kernel_rfl)) (of_decide_eq_true (by kernel_rfl)) (Rd.int Tryz.underlying3)
end
end Go.Proofs.YtlemfkimffoiiaaGreatDoor
end
section
namespace Go.Ideal
section
variable {G:GG} {N d:Nat} {st:St}
@[go_sem] theorem e1o {T:TypeId}:evS G N (some d) (.mkmap T) st=some (st.thru N d (.mp [] [])):=(rfl)
def d7p (v:AV):Option Int:=match v with
 | .lit (.int .i64 n)=>some n
 | _=>none
@[go_sem] theorem e84 {n:Int}:d7p (.lit (.int .i64 n))=some n:=(rfl)
theorem c3s (x:X):(d4h x).run st=(d7p (rdv st x)).map fun n=>(n,st):=by
 simp only [d4h,Ev.run_bind,a47,Option.bind]
 cases rdv st x<;>try rfl
 rename_i v; cases v<;>try rfl
 rename_i k n; cases k<;>rfl
def mpK (t:Nat) (q:List Nat) (k:Option AV):Option (Nat×List Nat×List Int×List AV):=match k with
 | some (.mp keys vals)=>some (t,q,keys,vals)
 | _=>none
@[congr] theorem e3n {t:Nat} {q:List Nat} {k k':Option AV} (h:k=k'):mpK t q k=mpK t q k':=by rw [h]
@[go_sem] theorem g1l {t:Nat} {q:List Nat} {keys:List Int} {vals:List AV}:mpK t q (some (.mp keys vals))=some (t,q,keys,vals):=(rfl)
def mpO (st:St) (v:AV):Option (Nat×List Nat×List Int×List AV):=match v with
 | .bor t q _ _ e=>mpK t q (a2a st t q e)
 | _=>none
@[congr] theorem e3o {v v':AV} (h:v=v'):mpO st v=mpO st v':=by rw [h]
@[go_sem] theorem f52 {t lo n e:Nat} {q:List Nat}:mpO st (.bor t q lo n e)=mpK t q (a2a st t q e):=(rfl)
theorem c3t (x:X):(d4w x).run st=(mpO st (rdv st x)).map fun r=>((r.1,r.2.1,st.s r.1,r.2.2.1,r.2.2.2),st):=by
 simp only [d4w,Ev.run_bind,a0u,Option.bind]
 cases hv:rdv st x<;>try rfl
 rename_i t q lo n e
 simp only [mpO,Ev.run_bind,a1m,Option.bind]
 by_cases he:e=st.ep t
 ·simp only [he,beq_self_eq_true,a0k,if_true,Ev.run,a00,Option.bind,b8z]
  cases hk:a0f (st.s t) q with
  | none=>rfl
  | some k=>cases k<;>rfl
 ·have:(e==st.ep t)=false:=by simpa using he
  simp only [this,a0k,Bool.false_eq_true,if_false,Ev.run,b8y he]
  rfl
def mgR (st:St) (d:Nat) (zs:List AV) (r:Option AV):Option St:=match r with
 | some v=>iO (a0n v) (some (st.put d (.tup [v,.lit (.bool true)]))) none
 | none=>iO (a0m zs) (some (st.put d (.tup [.agg zs,.lit (.bool false)]))) none
@[congr] theorem e3i {zs:List AV} {r r':Option AV} (h:r=r'):mgR st d zs r=mgR st d zs r':=by rw [h]
@[go_sem] theorem e9s {zs:List AV} {v:AV}:mgR st d zs (some v)=iO (a0n v) (some (st.put d (.tup [v,.lit (.bool true)]))) none:=(rfl)
@[go_sem] theorem e9r {zs:List AV}:mgR st d zs none=iO (a0m zs) (some (st.put d (.tup [.agg zs,.lit (.bool false)]))) none:=(rfl)
def mgS (st:St) (d:Nat) (zs:List AV) (m:Option (Nat×List Nat×List Int×List AV)) (n:Option Int):Option St:=match m,n with
 | some (_,_,keys,vals),some n=>mgR st d zs (a31 keys vals n)
 | _,_=>none
@[congr] theorem e3j {zs:List AV} {m m':Option (Nat×List Nat×List Int×List AV)} {n n':Option Int} (h:m=m') (h2:n=n'):mgS st d zs m n=mgS st d zs m' n':=by rw [h,h2]
@[go_sem] theorem e9t {zs:List AV} {t:Nat} {q:List Nat} {keys:List Int} {vals:List AV} {n:Int}:mgS st d zs (some (t,q,keys,vals)) (some n)=mgR st d zs (a31 keys vals n):=(rfl)
@[go_sem] theorem e8m {T e:TypeId} {zs:List AV} {x k:X}:evS G N (some d) (.mget T e zs x k) st=mgS st d zs (mpO st (rdv st x)) (d7p (rdv st k)):=by
 simp only [evS,a05,Ev.run_bind,c3t,Option.bind]
 cases mpO st (rdv st x) with
 | none=>rfl
 | some r=>
  obtain ⟨t,q,keys,vals⟩:=r
  simp only [Option.map,c3s]
  cases d7p (rdv st k) with
  | none=>rfl
  | some n=>
   simp only [mgS,mgR]
   cases a31 keys vals n with
   | none=>
    simp only [Ev.run_bind,a0g,Option.bind]
    cases a0m zs<;>rfl
   | some v=>
    simp only [Ev.run_bind,a0g,Option.bind]
    cases a0n v<;>rfl
def msS (st:St) (N:Nat) (m:Option (Nat×List Nat×List Int×List AV)) (n:Option Int) (v:AV):Option St:=match m,n with
 | some (t,q,keys,vals),some n=>iO (b2h v&&decide (t < N)) (some (st.set t (a0r (st.s t) q (.mp (a2y keys vals n v).1 (a2y keys vals n v).2)))) none
 | _,_=>none
@[congr] theorem e3p {m m':Option (Nat×List Nat×List Int×List AV)} {n n':Option Int} {v v':AV} (h:m=m') (h2:n=n') (h3:v=v'):msS st N m n v=msS st N m' n' v':=by rw [h,h2,h3]
@[go_sem] theorem e9w {t:Nat} {q:List Nat} {keys:List Int} {vals:List AV} {n:Int} {v:AV}:msS st N (some (t,q,keys,vals)) (some n) v=iO (b2h v&&decide (t < N)) (some (st.set t (a0r (st.s t) q (.mp (a2y keys vals n v).1 (a2y keys vals n v).2)))) none:=(rfl)
@[go_sem] theorem e8n {T e:TypeId} {x k v:X}:evS G N none (.mset T e x k v) st=msS st N (mpO st (rdv st x)) (d7p (rdv st k)) (rdv st v):=by
 simp only [evS,a05,Ev.run_bind,a0k,Option.isNone_none,if_true,Ev.run,Option.bind,c3t]
 cases mpO st (rdv st x) with
 | none=>rfl
 | some r=>
  obtain ⟨t,q,keys,vals⟩:=r
  simp only [Option.map,c3s]
  cases d7p (rdv st k) with
  | none=>rfl
  | some n=>
   simp only [msS,a0u,Ev.run_bind,a0g,Option.bind]
   cases b2h (rdv st v)&&decide (t < N)<;>rfl
def lnF (st:St) (d:Nat) (l:Option (List AV)):Option St:=match l with
 | some l=>some (st.put d (.loan l))
 | none=>none
@[congr] theorem e3a {l l':Option (List AV)} (h:l=l'):lnF st d l=lnF st d l':=by rw [h]
@[go_sem] theorem e9n {l:List AV}:lnF st d (some l)=some (st.put d (.loan l)):=(rfl)
def lnS (st:St) (N d sz:Nat) (r:Option (Nat×List Nat×Nat×List AV)):Option St:=match r with
 | some (t,q,o,ks)=>gO (o+sz<=ks.length/\t < N) (lnF st d (b7i t q (st.ep t) o ((ks.drop o).take sz)))
 | none=>none
@[congr] theorem e3b {sz:Nat} {r r':Option (Nat×List Nat×Nat×List AV)} (h:r=r'):lnS st N d sz r=lnS st N d sz r':=by rw [h]
@[go_sem] theorem e9o {sz t o:Nat} {q:List Nat} {ks:List AV}:lnS st N d sz (some (t,q,o,ks))=gO (o+sz<=ks.length/\t < N) (lnF st d (b7i t q (st.ep t) o ((ks.drop o).take sz))):=(rfl)
@[go_sem] theorem e8k {T sz:Nat} {x:X}:evS G N (some d) (.lend T sz x) st=lnS st N d sz (a6e st x (rdv st x)):=by
 simp only [evS,a05,Ev.run_bind,a7a,Option.bind]
 cases a6e st x (rdv st x) with
 | none=>rfl
 | some r=>
  obtain ⟨t,q,o,ks⟩:=r
  simp only [Option.map,Ev.run_bind,a0g,Option.bind,lnS,gO]
  by_cases h:o+sz<=ks.length/\t < N
  ·obtain ⟨h1,h2⟩:=h
   simp only [h1,h2,decide_true,Bool.and_self,if_true,and_self,a00]
   cases b7i t q (st.ep t) o (List.take sz (List.drop o ks))<;>rfl
  ·have:(decide (o+sz<=ks.length)&&decide (t < N))=false:=by
    rw [Bool.eq_false_iff]; intro hh
    simp only [Bool.and_eq_true,decide_eq_true_eq] at hh
    exact h hh
   simp only [this,Bool.false_eq_true,if_false,if_neg h]
end
end Go.Ideal
end
section
namespace Go.Ideal.Tryz
def a65:IC:=(.seq (.reg [oo 36 (.bin .lss 3 0 (.t 35) (.t 34) 3)]) (.seq (.cond (.t 36) .skip (.exit 0)) (.seq (.block 1 (.seq (.reg [oo 37 (.iaddr 31 6 (.t 33) (.t 35)),
 oo 38 (.load 30 (some 6) (.t 37)),
 oo 6 (.alloc 30 [.lit (.int .i64 0),.own 1 0 [],.own 1 0 [],.own 1 0 [],.lit (.bool false),.own 1 0 []]),
 ov (.store 30 6 (.t 6) (.t 38))]) (.reg [om 39 4,
 oo 40 (.faddr 30 1 (.t 6) 1),
 oo 41 (.load 22 none (.t 40)),
 oo 42 (.bslice 65 22 1 1 [.own 1 0 []] [(0,(.t 41))]),
 oo 43 (.app 65 22 1 24 (.t 39) (.t 42)),
 oo 4 (.asg (.t 43))]))) (.reg [oo 44 (.bin .add 3 0 (.t 35) (.n 1) 3),
 om 35 44]))))
def a66:IC:=(.seq (.reg [oo 76 (.bin .lss 3 0 (.t 75) (.t 74) 3)]) (.seq (.cond (.t 76) .skip (.exit 2)) (.seq (.block 3 (.seq (.reg [oo 77 (.iaddr 22 1 (.t 73) (.t 75)),
 oo 78 (.load 3 none (.t 77)),
 oo 10 (.asg (.t 78))]) (.seq (.reg [om 80 7,
 oo 81 (.faddr 33 0 (.t 1) 0),
 oo 82 (.load 31 none (.t 81)),
 om 83 10,
 oo 84 (.iaddr 31 6 (.t 82) (.t 83)),
 oo 85 (.load 30 (some 6) (.t 84)),
 ⟨(some 86),.callx (.f 25) [(false,(.t 85))] [.x (.t 80),.p 0] [66,30],none⟩,
 oo 79 (.mva (.t 86)),
 oo 87 (.ext (.t 79) 0),
 oo 88 (.ext (.t 79) 1),
 oo 11 (.alloc 26 [.own 1 0 [],.lit (.bool false)]),
 ov (.store 26 2 (.t 11) (.t 87)),
 oo 12 (.asg (.t 88))]) (.seq (.seq (.reg [om 89 12,
 oo 90 (.bin .neq 38 2 (.t 89) (.c .nilIface) 38)]) (.cond (.t 90) (.seq (.reg [oo 91 (.build 56 [.sl 0 [],.sl 0 [],.sl 0 [],.lit (.bool false),.sl 0 []] []),
 om 92 10,
 om 93 12,
 oc 94 26 [(false,(.t 92)),(false,(.t 93))] [3,38],
 ov (.store 56 5 (.t 2) (.t 91)),
 oo 3 (.asg (.t 94))]) .ret) .skip)) (.draw [om 95 7,
 oo 96 (.nilck (.t 95)),
 oo 97 (.faddr 69 0 (.t 96) 0),
 oo 98 (.faddr 56 1 (.t 97) 1),
 oo 99 (.load 54 none (.t 98)),
 om 100 10,
 oo 101 (.load 26 (some 2) (.t 11)),
 oo 102 (.iaddr 54 2 (.t 99) (.t 100)),
 ov (.store 26 2 (.t 102) (.t 101))] [[],[0],[1],[2],[3],[],[],[4,5,0,1,2,3,4,5,6],[7,6,0,1,2,3,4,5,6]]))))) (.reg [oo 103 (.bin .add 3 0 (.t 75) (.n 1) 3),
 om 75 103]))))
def a6r:IC:=(.seq (.reg [oo 1 (.box 33 2 (.t 0)),
 oo 2 (.alloc 56 [.own 1 0 [],.own 2 0 [],.own 1 0 [],.lit (.bool false),.own 2 0 []]),
 oo 3 (.asg (.c .nilIface))]) (.seq (.seq (.reg [oo 13 (.faddr 33 0 (.t 1) 0),
 oo 14 (.load 31 none (.t 13)),
 oo 15 (.len 31 false (.t 14)),
 oo 16 (.bin .gtr 3 0 (.t 15) (.n 64) 3)]) (.cond (.t 16) (.seq (.draw [oo 17 (.build 56 [.sl 0 [],.sl 0 [],.sl 0 [],.lit (.bool false),.sl 0 []] []),
 oo 18 (.load 38 none (.g 1)),
 ov (.store 56 5 (.t 2) (.t 17)),
 oo 3 (.asg (.t 18))] [[],[],[0,0],[1,2,0,1,2]]) .ret) .skip)) (.seq (.seq (.reg [oo 19 (.faddr 33 1 (.t 1) 1),
 oo 20 (.load 3 none (.t 19)),
 oo 21 (.bin .lss 3 0 (.t 20) (.n 0) 3),
 om 22 21,
 og 23 (.faddr 33 1 (.t 1) 1) 3 22 false,
 og 24 (.load 3 none (.t 23)) 3 22 false,
 og 25 (.faddr 33 0 (.t 1) 0) 3 22 false,
 og 26 (.load 31 none (.t 25)) 3 22 false,
 og 27 (.len 31 false (.t 26)) 3 22 false,
 og 28 (.bin .geq 3 0 (.t 24) (.t 27) 3) 3 22 false,
 oo 29 (.pick (.t 22) (.c (.bool true)) (.t 28))]) (.cond (.t 29) (.seq (.draw [oo 30 (.build 56 [.sl 0 [],.sl 0 [],.sl 0 [],.lit (.bool false),.sl 0 []] []),
 oo 31 (.load 38 none (.g 2)),
 ov (.store 56 5 (.t 2) (.t 30)),
 oo 3 (.asg (.t 31))] [[],[],[0,0],[1,2,0,1,2]]) .ret) .skip)) (.seq (.reg [oo 4 (.asg (.nl 1))]) (.seq (.seq (.reg [oo 32 (.faddr 33 0 (.t 1) 0),
 oo 33 (.load 31 none (.t 32)),
 oo 34 (.len 31 false (.t 33)),
 oo 35 (.mv (.n 0))]) (.block 0 (.loop a65))) (.seq (.reg [oo 45 (.mkmap 67),
 oo 46 (.build 69 [.own 1 0 [],.own 2 0 [],.sl 0 [],.lit (.bool false),.own 2 0 [],.lit (.bool false),.lit (.map none)] [(2,6,1,(.t 45))]),
 oo 47 (.box 69 7 (.t 46)),
 oo 7 (.asg (.t 47))]) (.seq (.reg [oo 8 (.asg (.c .nilIface))]) (.seq (.seq (.reg [om 49 7,
 om 50 4,
 oc 51 24 [(false,(.t 50))] [65],
 oo 48 (.mva (.t 51)),
 oo 52 (.ext (.t 48) 0),
 oo 53 (.ext (.t 48) 1),
 oo 54 (.nilck (.t 49)),
 oo 55 (.faddr 69 0 (.t 54) 0),
 oo 56 (.faddr 56 0 (.t 55) 0),
 ov (.stf 22 1 (.t 56) (.t 52)),
 oo 8 (.asg (.t 53))]) (.seq (.reg [om 57 8,
 oo 58 (.bin .neq 38 2 (.t 57) (.c .nilIface) 38)]) (.cond (.t 58) (.seq (.reg [oo 59 (.build 56 [.sl 0 [],.sl 0 [],.sl 0 [],.lit (.bool false),.sl 0 []] []),
 om 60 8,
 ov (.store 56 5 (.t 2) (.t 59)),
 oo 3 (.asg (.t 60))]) .ret) .skip))) (.seq (.reg [om 61 7,
 oo 62 (.faddr 33 0 (.t 1) 0),
 oo 63 (.load 31 none (.t 62)),
 oo 64 (.len 31 false (.t 63)),
 oo 65 (.mks 54 26 2 32 [.sl 0 [],.lit (.bool false)] (.t 64) (.t 64)),
 oo 66 (.nilck (.t 61)),
 oo 67 (.faddr 69 0 (.t 66) 0),
 oo 68 (.faddr 56 1 (.t 67) 1),
 ov (.store 54 1 (.t 68) (.t 65))]) (.seq (.seq (.reg [om 69 7,
 oo 70 (.nilck (.t 69)),
 oo 71 (.faddr 69 0 (.t 70) 0),
 oo 72 (.faddr 56 0 (.t 71) 0),
 oo 73 (.load 22 none (.t 72)),
 oo 74 (.len 22 false (.t 73)),
 oo 75 (.mv (.n 0))]) (.block 2 (.loop a66))) (.seq (.reg [om 104 7,
 oo 105 (.nilck (.t 104)),
 oo 106 (.faddr 69 0 (.t 105) 0),
 oo 107 (.load 56 (some 5) (.t 106)),
 ov (.store 56 5 (.t 2) (.t 107)),
 oo 3 (.asg (.c .nilIface))]) .ret)))))))))))
abbrev c36:Nat:=16
theorem b7r:fnC pg 16 108 [(.cells 2 5),(.tmp 3)] a6r:=a0w Go.Proofs.Tryz.f16 [(.cell 2 56),(.tmp 3)] (by kernel_rfl)
@[go_sem] theorem d2s:fnB pg 16=true:=by kernel_rfl
def a17:IC:=(.seq (.reg [oo 18 (.bin .lss 3 0 (.t 17) (.t 16) 3)]) (.seq (.cond (.t 18) .skip (.exit 1)) (.seq (.block 2 (.seq (.reg [oo 19 (.iaddr 22 1 (.t 15) (.t 17)),
 oo 20 (.load 3 none (.t 19)),
 oo 8 (.asg (.t 20))]) (.reg [om 21 6,
 om 22 0,
 oo 23 (.nilck (.t 22)),
 oo 24 (.faddr 69 0 (.t 23) 0),
 oo 25 (.faddr 56 1 (.t 24) 1),
 oo 26 (.load 54 none (.t 25)),
 om 27 8,
 oo 28 (.iaddr 54 2 (.t 26) (.t 27)),
 oo 29 (.load 26 (some 2) (.t 28)),
 oo 30 (.bslice 54 26 2 1 [.own 1 0 [],.lit (.bool false)] [(0,(.t 29))]),
 oo 31 (.app 54 26 2 32 (.t 21) (.t 30)),
 oo 6 (.asg (.t 31))]))) (.reg [oo 32 (.bin .add 3 0 (.t 17) (.n 1) 3),
 om 17 32]))))
def a5o:IC:=(.seq (.reg [oo 3 (.box 30 6 (.t 1)),
 oo 4 (.alloc 26 [.own 1 0 [],.lit (.bool false)]),
 oo 5 (.asg (.c .nilIface))]) (.seq (.block 0 (.seq (.reg [oo 11 (.faddr 30 0 (.t 3) 0),
 oo 12 (.load 3 none (.t 11)),
 oc 13 39 [(false,(.t 12))] [3],
 oo 10 (.asg (.t 13))]) (.cond (.t 10) (.seq (.reg [oo 6 (.asg (.nl 2))]) (.seq (.seq (.reg [oo 14 (.faddr 30 1 (.t 3) 1),
 oo 15 (.load 22 none (.t 14)),
 oo 16 (.len 22 false (.t 15)),
 oo 17 (.mv (.n 0))]) (.block 1 (.loop a17))) (.seq (.reg [oo 33 (.faddr 30 0 (.t 3) 0),
 oo 34 (.load 3 none (.t 33)),
 oo 35 (.faddr 30 2 (.t 3) 2),
 oo 36 (.load 22 none (.t 35)),
 om 37 6,
 oc 38 40 [(false,(.t 34)),(false,(.t 36)),(false,(.t 37))] [3,22,54],
 oo 39 (.ext (.t 38) 0),
 oo 40 (.ext (.t 38) 1),
 ov (.store 26 2 (.t 4) (.t 39)),
 oo 5 (.asg (.t 40))]) .ret))) (.seq (.reg [oo 42 (.faddr 30 0 (.t 3) 0),
 oo 43 (.load 3 none (.t 42)),
 oo 44 (.bin .lss 3 0 (.t 43) (.n 1) 3),
 om 45 44,
 og 46 (.faddr 30 0 (.t 3) 0) 3 45 false,
 og 47 (.load 3 none (.t 46)) 3 45 false,
 og 48 (.bin .gtr 3 0 (.t 47) (.n 3) 3) 3 45 false,
 oo 49 (.pick (.t 45) (.c (.bool true)) (.t 48)),
 oo 41 (.asg (.t 49))]) (.cond (.t 41) (.seq (.draw [oo 50 (.build 26 [.sl 0 [],.lit (.bool false)] []),
 oo 51 (.load 38 none (.g 4)),
 ov (.store 26 2 (.t 4) (.t 50)),
 oo 5 (.asg (.t 51))] [[],[],[0,0],[1,2,0,1,2]]) .ret) (.seq (.reg [oo 53 (.faddr 30 1 (.t 3) 1),
 oo 54 (.load 22 none (.t 53)),
 oo 55 (.len 22 false (.t 54)),
 oo 56 (.bin .gtr 3 0 (.t 55) (.n 0) 3),
 oo 52 (.asg (.t 56))]) (.cond (.t 52) (.seq (.draw [oo 57 (.build 26 [.sl 0 [],.lit (.bool false)] []),
 oo 58 (.load 38 none (.g 0)),
 ov (.store 26 2 (.t 4) (.t 57)),
 oo 5 (.asg (.t 58))] [[],[],[0,0],[1,2,0,1,2]]) .ret) (.seq (.reg [oo 60 (.faddr 30 0 (.t 3) 0),
 oo 61 (.load 3 none (.t 60)),
 oo 62 (.bin .eql 3 0 (.t 61) (.n 1) 3),
 oo 59 (.asg (.t 62))]) (.cond (.t 59) (.seq (.reg [om 63 0,
 oo 64 (.load 30 (some 6) (.t 3)),
 ⟨(some 65),.callx (.f 41) [(false,(.t 64))] [.x (.t 63),.p 0] [66,30],none⟩,
 oo 66 (.ext (.t 65) 0),
 oo 67 (.ext (.t 65) 1),
 ov (.store 26 2 (.t 4) (.t 66)),
 oo 5 (.asg (.t 67))]) .ret) (.seq (.reg [oo 69 (.faddr 30 0 (.t 3) 0),
 oo 70 (.load 3 none (.t 69)),
 oo 71 (.bin .eql 3 0 (.t 70) (.n 3) 3),
 oo 68 (.asg (.t 71))]) (.cond (.t 68) (.seq (.reg [om 72 0,
 oo 73 (.load 30 (some 6) (.t 3)),
 ⟨(some 74),.callx (.f 42) [(false,(.t 73))] [.x (.t 72),.p 0] [66,30],none⟩,
 oo 75 (.ext (.t 74) 0),
 oo 76 (.ext (.t 74) 1),
 ov (.store 26 2 (.t 4) (.t 75)),
 oo 5 (.asg (.t 76))]) .ret) (.seq (.reg [oo 78 (.faddr 30 2 (.t 3) 2),
 oo 79 (.load 22 none (.t 78)),
 oo 80 (.len 22 false (.t 79)),
 oo 81 (.bin .gtr 3 0 (.t 80) (.n 0) 3),
 oo 77 (.asg (.t 81))]) (.cond (.t 77) (.seq (.draw [oo 82 (.build 26 [.sl 0 [],.lit (.bool false)] []),
 oo 83 (.load 38 none (.g 0)),
 ov (.store 26 2 (.t 4) (.t 82)),
 oo 5 (.asg (.t 83))] [[],[],[0,0],[1,2,0,1,2]]) .ret) .skip))))))))))))) (.seq (.seq (.reg [oo 84 (.faddr 30 3 (.t 3) 3),
 oo 85 (.load 28 (some 3) (.t 84)),
 oc 86 27 [(false,(.t 85))] [28],
 oo 9 (.asg (.t 86))]) (.seq (.reg [om 87 9,
 oo 88 (.bin .neq 38 2 (.t 87) (.c .nilIface) 38)]) (.cond (.t 88) (.seq (.reg [oo 89 (.build 26 [.sl 0 [],.lit (.bool false)] []),
 om 90 9,
 ov (.store 26 2 (.t 4) (.t 89)),
 oo 5 (.asg (.t 90))]) .ret) .skip))) (.seq (.reg [oo 91 (.faddr 30 3 (.t 3) 3),
 oo 92 (.faddr 28 0 (.t 91) 0),
 oo 93 (.load 26 (some 2) (.t 92)),
 oc 94 29 [(false,(.t 93))] [26],
 ov (.store 26 2 (.t 4) (.t 94)),
 oo 5 (.asg (.c .nilIface))]) .ret))))
abbrev a9c:Nat:=25
@[go_sem] theorem b9x:fnB pg 25=true:=by kernel_rfl
theorem a68:fnX pg 25 95 [(.cells 4 2),(.tmp 5)] [(.cell 4 26),(.tmp 5)] a5o:=c3b Go.Proofs.Tryz.f25 (by kernel_rfl)
def a6s:IC:=(.seq (.reg [oo 3 (.box 30 6 (.t 1)),
 oo 4 (.alloc 26 [.own 1 0 [],.lit (.bool false)]),
 oo 5 (.asg (.c .nilIface))]) (.seq (.reg [oo 9 (.faddr 30 2 (.t 3) 2),
 oo 10 (.load 22 none (.t 9)),
 oc 11 65 [(false,(.t 10)),(false,(.n 0))] [22,3],
 oo 8 (.mva (.t 11)),
 oo 12 (.ext (.t 8) 0),
 oo 13 (.ext (.t 8) 1),
 oo 6 (.alloc 26 [.own 1 0 [],.lit (.bool false)]),
 ov (.store 26 2 (.t 6) (.t 12)),
 oo 7 (.asg (.t 13))]) (.seq (.seq (.reg [om 14 7,
 oo 15 (.bin .neq 38 2 (.t 14) (.c .nilIface) 38)]) (.cond (.t 15) (.seq (.reg [oo 16 (.build 26 [.sl 0 [],.lit (.bool false)] []),
 om 17 7,
 ov (.store 26 2 (.t 4) (.t 16)),
 oo 5 (.asg (.t 17))]) .ret) .skip)) (.seq (.seq (.draw [om 18 0,
 oo 19 (.nilck (.t 18)),
 oo 20 (.faddr 69 5 (.t 19) 1),
 oo 21 (.load 4 none (.t 20)),
 om 22 21,
 og 23 (.load 26 (some 2) (.t 6)) 4 22 true,
 og 24 (.mv (.t 0)) 4 22 true,
 og 25 (.nilck (.t 24)) 4 22 true,
 og 26 (.faddr 69 0 (.t 25) 0) 4 22 true,
 og 27 (.faddr 56 2 (.t 26) 2) 4 22 true,
 og 28 (.load 26 (some 2) (.t 27)) 4 22 true,
 ⟨(some 29),.call 28 [(false,(.t 23)),(false,(.t 28))] [26,26],(some (4,22,true))⟩,
 og 30 (.un .not 4 (.t 29)) 4 22 true,
 oo 31 (.pick (.t 22) (.t 30) (.c (.bool false)))] [[],[0],[1],[2],[3],[4],[4],[6,4],[7,4],[8,4],[9,4],[5,10,4,4],[11,4],[4,12]]) (.cond (.t 31) (.seq (.draw [oo 32 (.build 26 [.sl 0 [],.lit (.bool false)] []),
 oo 33 (.load 38 none (.g 0)),
 ov (.store 26 2 (.t 4) (.t 32)),
 oo 5 (.asg (.t 33))] [[],[],[0,0],[1,2,0,1,2]]) .ret) .skip)) (.seq (.reg [om 34 0,
 om 35 0,
 oo 36 (.load 26 (some 2) (.t 6)),
 oc 37 29 [(false,(.t 36))] [26],
 oo 38 (.nilck (.t 34)),
 oo 39 (.faddr 69 5 (.t 38) 1),
 ov (.store 4 1 (.t 39) (.c (.bool true))),
 oo 40 (.nilck (.t 35)),
 oo 41 (.faddr 69 0 (.t 40) 0),
 oo 42 (.faddr 56 2 (.t 41) 2),
 ov (.store 26 2 (.t 42) (.t 37))]) (.seq (.reg [oo 43 (.load 26 (some 2) (.t 6)),
 ov (.store 26 2 (.t 4) (.t 43)),
 oo 5 (.asg (.c .nilIface))]) .ret))))))
abbrev b1b:Nat:=41
@[go_sem] theorem c2e:fnB pg 41=true:=by kernel_rfl
theorem a79:fnX pg 41 44 [(.cells 4 2),(.tmp 5)] [(.cell 4 26),(.tmp 5)] a6s:=c3b Go.Proofs.Tryz.f41 (by kernel_rfl)
@[go_sem] def order_looker_weight_r12:List AO:=[om 57 0,
 oo 58 (.nilck (.t 57)),
 oo 59 (.faddr 69 6 (.t 58) 2),
 oo 60 (.load 67 none (.t 59)),
 om 61 6,
 oo 62 (.load 26 (some 2) (.t 7)),
 ov (.mset 67 26 (.t 60) (.t 61) (.t 62))]
def a1i:IC:=(.seq (.seq (.reg [om 63 0,
 oo 64 (.nilck (.t 63)),
 oo 65 (.faddr 69 0 (.t 64) 0),
 oo 66 (.faddr 56 4 (.t 65) 3),
 oo 67 (.load 54 none (.t 66)),
 oo 68 (.len 54 false (.t 67)),
 om 69 6,
 oo 70 (.bin .leq 3 0 (.t 68) (.t 69) 3)]) (.cond (.t 70) .skip (.exit 0))) (.block 1 (.reg [om 71 0,
 om 72 0,
 oo 73 (.nilck (.t 72)),
 oo 74 (.faddr 69 0 (.t 73) 0),
 oo 75 (.faddr 56 4 (.t 74) 3),
 oo 76 (.load 54 none (.t 75)),
 oo 77 (.build 26 [.sl 0 [],.lit (.bool false)] []),
 oo 78 (.bslice 54 26 2 1 [.own 1 0 [],.lit (.bool false)] [(0,(.t 77))]),
 oo 79 (.app 54 26 2 32 (.t 76) (.t 78)),
 oo 80 (.nilck (.t 71)),
 oo 81 (.faddr 69 0 (.t 80) 0),
 oo 82 (.faddr 56 4 (.t 81) 3),
 ov (.store 54 1 (.t 82) (.t 79))])))
@[go_sem] def order_looker_weight_r15:List AO:=[om 83 0,
 oo 84 (.nilck (.t 83)),
 oo 85 (.faddr 69 0 (.t 84) 0),
 oo 86 (.faddr 56 4 (.t 85) 3),
 oo 87 (.load 54 none (.t 86)),
 om 88 6,
 oo 89 (.load 26 (some 2) (.t 7)),
 oc 90 29 [(false,(.t 89))] [26],
 oo 91 (.iaddr 54 2 (.t 87) (.t 88)),
 ov (.store 26 2 (.t 91) (.t 90))]
@[go_sem] def order_looker_weight_r16:List AO:=[oo 92 (.load 26 (some 2) (.t 7)),
 ov (.store 26 2 (.t 4) (.t 92)),
 oo 5 (.asg (.c .nilIface))]
def a1n:IC:=(.seq (.reg [oo 3 (.box 30 6 (.t 1)),
 oo 4 (.alloc 26 [.own 1 0 [],.lit (.bool false)]),
 oo 5 (.asg (.c .nilIface))]) (.seq (.seq (.reg [oo 11 (.faddr 30 2 (.t 3) 2),
 oo 12 (.load 22 none (.t 11)),
 oo 13 (.len 22 false (.t 12)),
 oo 14 (.bin .lss 3 0 (.t 13) (.n 2) 3)]) (.cond (.t 14) (.seq (.draw [oo 15 (.build 26 [.sl 0 [],.lit (.bool false)] []),
 oo 16 (.load 38 none (.g 0)),
 ov (.store 26 2 (.t 4) (.t 15)),
 oo 5 (.asg (.t 16))] [[],[],[0,0],[1,2,0,1,2]]) .ret) .skip)) (.seq (.reg [oo 17 (.faddr 30 2 (.t 3) 2),
 oo 18 (.load 22 none (.t 17)),
 oo 19 (.iaddr 22 1 (.t 18) (.n 0)),
 oo 20 (.load 3 none (.t 19)),
 oo 6 (.asg (.t 20))]) (.seq (.seq (.reg [om 21 6,
 oo 22 (.bin .lss 3 0 (.t 21) (.n 0) 3),
 om 23 22,
 og 24 (.mv (.t 6)) 2 23 false,
 og 25 (.bin .geq 3 0 (.t 24) (.n 8) 3) 2 23 false,
 oo 26 (.pick (.t 23) (.c (.bool true)) (.t 25))]) (.cond (.t 26) (.seq (.draw [oo 27 (.build 26 [.sl 0 [],.lit (.bool false)] []),
 oo 28 (.load 38 none (.g 5)),
 ov (.store 26 2 (.t 4) (.t 27)),
 oo 5 (.asg (.t 28))] [[],[],[0,0],[1,2,0,1,2]]) .ret) .skip)) (.seq (.reg [oo 30 (.faddr 30 2 (.t 3) 2),
 oo 31 (.load 22 none (.t 30)),
 oc 32 65 [(false,(.t 31)),(false,(.n 1))] [22,3],
 oo 29 (.mva (.t 32)),
 oo 33 (.ext (.t 29) 0),
 oo 34 (.ext (.t 29) 1),
 oo 7 (.alloc 26 [.own 1 0 [],.lit (.bool false)]),
 ov (.store 26 2 (.t 7) (.t 33)),
 oo 8 (.asg (.t 34))]) (.seq (.seq (.reg [om 35 8,
 oo 36 (.bin .neq 38 2 (.t 35) (.c .nilIface) 38)]) (.cond (.t 36) (.seq (.reg [oo 37 (.build 26 [.sl 0 [],.lit (.bool false)] []),
 om 38 8,
 ov (.store 26 2 (.t 4) (.t 37)),
 oo 5 (.asg (.t 38))]) .ret) .skip)) (.seq (.seq (.reg [om 40 0,
 oo 41 (.nilck (.t 40)),
 oo 42 (.faddr 69 6 (.t 41) 2),
 oo 43 (.load 67 none (.t 42)),
 om 44 6,
 oo 45 (.mget 67 26 [.sl 0 [],.lit (.bool false)] (.t 43) (.t 44)),
 om 39 45,
 oo 46 (.ext (.t 39) 0),
 oo 47 (.ext (.t 39) 1),
 oo 9 (.alloc 26 [.own 1 0 [],.lit (.bool false)]),
 ov (.store 26 2 (.t 9) (.t 46)),
 oo 10 (.asg (.t 47))]) (.seq (.reg [om 48 10,
 om 49 48,
 og 50 (.load 26 (some 2) (.t 7)) 1 49 true,
 og 51 (.load 26 (some 2) (.t 9)) 1 49 true,
 ⟨(some 52),.call 28 [(false,(.t 50)),(false,(.t 51))] [26,26],(some (1,49,true))⟩,
 og 53 (.un .not 4 (.t 52)) 1 49 true,
 oo 54 (.pick (.t 49) (.t 53) (.c (.bool false)))]) (.cond (.t 54) (.seq (.draw [oo 55 (.build 26 [.sl 0 [],.lit (.bool false)] []),
 oo 56 (.load 38 none (.g 0)),
 ov (.store 26 2 (.t 4) (.t 55)),
 oo 5 (.asg (.t 56))] [[],[],[0,0],[1,2,0,1,2]]) .ret) .skip))) (.seq (.draw order_looker_weight_r12 [[],[0],[1],[2],[],[],[3,4,5,0,1,2,3,4,5]]) (.seq (.block 0 (.loop a1i)) (.seq (.draw order_looker_weight_r15 [[],[0],[1],[2],[3],[],[],[6],[4,5,0,1,2,3,4,5,6,7],[8,7,7,0,1,2,3,4,5,6,7]]) (.seq (.reg order_looker_weight_r16) .ret)))))))))))
abbrev a7p:Nat:=42
@[go_sem] theorem b7s:fnB pg 42=true:=by kernel_rfl
theorem a59:fnX pg 42 93 [(.cells 4 2),(.tmp 5)] [(.cell 4 26),(.tmp 5)] a1n:=c3b Go.Proofs.Tryz.f42 (by kernel_rfl)
def a4u:IC:=(.seq (.reg [oo 4 (.alloc 26 [.own 1 0 [],.lit (.bool false)]),
 oo 5 (.asg (.c .nilIface))]) (.seq (.seq (.reg [om 8 0,
 oo 9 (.len 22 false (.t 8)),
 om 10 1,
 oo 11 (.bin .leq 3 0 (.t 9) (.t 10) 3)]) (.cond (.t 11) (.seq (.draw [oo 12 (.build 26 [.sl 0 [],.lit (.bool false)] []),
 oo 13 (.load 38 none (.g 0)),
 ov (.store 26 2 (.t 4) (.t 12)),
 oo 5 (.asg (.t 13))] [[],[],[0,0],[1,2,0,1,2]]) .ret) .skip)) (.seq (.seq (.reg [om 14 0,
 om 15 1,
 oo 16 (.iaddr 22 1 (.t 14) (.t 15)),
 oo 17 (.load 3 none (.t 16)),
 oo 18 (.bin .neq 3 0 (.t 17) (.n 0) 3),
 om 19 18,
 og 20 (.mv (.t 0)) 5 19 true,
 og 21 (.mv (.t 1)) 5 19 true,
 og 22 (.iaddr 22 1 (.t 20) (.t 21)) 5 19 true,
 og 23 (.load 3 none (.t 22)) 5 19 true,
 og 24 (.bin .neq 3 0 (.t 23) (.n 1) 3) 5 19 true,
 oo 25 (.pick (.t 19) (.t 24) (.c (.bool false)))]) (.cond (.t 25) (.seq (.draw [oo 26 (.build 26 [.sl 0 [],.lit (.bool false)] []),
 oo 27 (.load 38 none (.g 5)),
 ov (.store 26 2 (.t 4) (.t 26)),
 oo 5 (.asg (.t 27))] [[],[],[0,0],[1,2,0,1,2]]) .ret) .skip)) (.seq (.draw [om 28 0,
 om 29 1,
 oo 30 (.bin .add 3 0 (.t 29) (.n 1) 3),
 oo 31 (.slice 22 1 (.t 28) (some (.t 30)) none none),
 oc 32 30 [(false,(.t 31))] [22],
 om 33 0,
 om 34 1,
 oo 35 (.iaddr 22 1 (.t 33) (.t 34)),
 oo 36 (.load 3 none (.t 35)),
 oo 37 (.bin .eql 3 0 (.t 36) (.n 1) 3),
 oo 38 (.build 26 [.own 1 0 [],.lit (.bool false)] [(0,0,1,(.t 32)),(1,1,1,(.t 37))]),
 oo 6 (.alloc 26 [.own 1 0 [],.lit (.bool false)]),
 ov (.store 26 2 (.t 6) (.t 38))] [[],[],[1],[0,2],[3],[],[],[5,6],[7],[8],[4,9],[],[11,10,4,0,1,2,3,4,5,6,7,8,9,10,11]]) (.seq (.seq (.reg [oo 39 (.load 26 (some 2) (.t 6)),
 oc 40 44 [(false,(.t 39))] [26],
 oo 7 (.asg (.t 40))]) (.seq (.reg [om 41 7,
 oo 42 (.bin .neq 38 2 (.t 41) (.c .nilIface) 38)]) (.cond (.t 42) (.seq (.reg [oo 43 (.build 26 [.sl 0 [],.lit (.bool false)] []),
 om 44 7,
 ov (.store 26 2 (.t 4) (.t 43)),
 oo 5 (.asg (.t 44))]) .ret) .skip))) (.seq (.reg [oo 45 (.load 26 (some 2) (.t 6)),
 ov (.store 26 2 (.t 4) (.t 45)),
 oo 5 (.asg (.c .nilIface))]) .ret))))))
abbrev b8k:Nat:=65
theorem b4h:fnC pg 65 46 [(.cells 4 2),(.tmp 5)] a4u:=a0w Go.Proofs.Tryz.f65 [(.cell 4 26),(.tmp 5)] (by kernel_rfl)
@[go_sem] theorem c88:fnB pg 65=true:=by kernel_rfl
end Go.Ideal.Tryz
end
section
namespace Go.Ideal
section
variable (P:Program) (G:GG) (N:Nat) (aft:DA)
def c4d (ex:List Nat) (d:Option Nat) (f:FuncId) (args:List (Bool×X)) (rest:List AO) (fps:List (List Nat×List Nat)) (K:St->Prop) (st:St) (o1 o2:Option St):Prop:=match o1,o2 with
 | some st1,some st2=>c25 P G N aft d f (a4v N args.length st2) (ex++(d.toList++a0v st (args.map (·.2)))) rest fps K st st1 st2
 | _,_=>False
def c1g (ex:List Nat) (d:Option Nat) (f:FuncId) (args:List (Bool×X)) (rest:List AO) (fps:List (List Nat×List Nat)) (K:St->Prop) (st:St) (o1:Option St):Prop:=c4d P G N aft ex d f args rest fps K st o1 (pss N (N+2) args o1)
def d17 (v:AV) (want:Bool) (t:Nat) (d:Option Nat) (f:FuncId) (args:List (Bool×X)) (rest:List AO) (fps:List (List Nat×List Nat)) (K:St->Prop) (st:St):Prop:=match v with
 | .lit v=>if b5j want v then c1g P G N aft [t] d f args rest fps K st (gvs N (N+2) args (some st)) else (∀ u∈t::d.toList,u < N)/\a6b aft.2 (a2o d st)/\a6c P G N aft rest (fps++[([t],d.toList)]) K (a2o d st)
 | _=>False
end
section
variable {P:Program} {G:GG} {N:Nat} {aft:DA} {fps:List (List Nat×List Nat)} {K:St->Prop} {st:St} {d:Option Nat} {rest:List AO} {t:Nat} {f:FuncId} {args:List (Bool×X)} {ex:List Nat}
@[congr] theorem d61 {v v':AV} {w:Bool} (h:v=v'):d17 P G N aft v w t d f args rest fps K st=d17 P G N aft v' w t d f args rest fps K st:=by rw [h]
@[congr] theorem d3q {o o':Option St} (h:o=o'):c1g P G N aft ex d f args rest fps K st o=c1g P G N aft ex d f args rest fps K st o':=by rw [h]
@[congr] theorem d3r {o1 o o':Option St} (h:o=o'):c4d P G N aft ex d f args rest fps K st o1 o=c4d P G N aft ex d f args rest fps K st o1 o':=by rw [h]
@[go_sem] theorem d6w {st1:St}:c1g P G N aft ex d f args rest fps K st (some st1)=c4d P G N aft ex d f args rest fps K st (some st1) (pss N (N+2) args (some st1)):=(rfl)
@[go_sem] theorem d6x {st1 st2:St}:c4d P G N aft ex d f args rest fps K st (some st1) (some st2)=c25 P G N aft d f (a4v N args.length st2) (ex++(d.toList++a0v st (args.map (·.2)))) rest fps K st st1 st2:=(rfl)
@[go_sem] theorem f2r {j:Nat} {want:Bool} {tys:List TypeId}:a6c P G N aft (⟨d,.call f args tys,some (j,t,want)⟩::rest) fps K st=d17 P G N aft (st.s t) want t d f args rest fps K st:=by
 simp only [a6c,d17]
 cases st.s t<;>try rfl
 simp only [c6g,c1g,c4d,c25]
 split
 ·cases gvs N (N+2) args (some st) with
  | none=>rfl
  | some st1=>
   simp only
   cases pss N (N+2) args (some st1)<;>rfl
 ·rfl
@[go_sem] theorem f2q:d17 P G N aft (.lit (.bool true)) true t d f args rest fps K st=c1g P G N aft [t] d f args rest fps K st (gvs N (N+2) args (some st)):=(rfl)
@[go_sem] theorem f2n:d17 P G N aft (.lit (.bool false)) false t d f args rest fps K st=c1g P G N aft [t] d f args rest fps K st (gvs N (N+2) args (some st)):=(rfl)
@[go_sem] theorem f2p:d17 P G N aft (.lit (.bool true)) false t d f args rest fps K st=((∀ u∈t::d.toList,u < N)/\a6b aft.2 (a2o d st)/\a6c P G N aft rest (fps++[([t],d.toList)]) K (a2o d st)):=(rfl)
@[go_sem] theorem f2o:d17 P G N aft (.lit (.bool false)) true t d f args rest fps K st=((∀ u∈t::d.toList,u < N)/\a6b aft.2 (a2o d st)/\a6c P G N aft rest (fps++[([t],d.toList)]) K (a2o d st)):=(rfl)
end
end Go.Ideal
end
section
namespace Go.Ideal.Tryz
attribute [local go_sem] eD
def a3v (args:List Int) (a:Nat):Dr:=
 if args.length<=a then bad 6
 else if args[a]! ≠0/\args[a]! ≠1 then bad 3
 else chk (a1a (args.drop (a+1))) (⟨args.drop (a+1),decide (args[a]! =1)⟩,.nil)
section
variable {G:GG} {bk:Nat->Nat×Nat} {Q:Exit->St->Prop} {st:St}
theorem d2d (hS:SentO G bk) (args:List Int) (a:Nat) (hlen:args.length < 2 ^ 36) (ha:a<=1):ACalls pg G b8k [slI args,li a] (b25 bk (a3v args a)):=by
 have h7:=hS.val 0 (by decide)
 have h3:=hS.val 5 (by decide)
 refine b4h rfl ?_
 by_cases h1:args.length<=a
 ·have h1':(args.length:Int)<=a:=by omega
  simp (disch:=omega) [go_sem,a4u,h1,h1']
  refine a0b ?_
  simp (disch:=omega) [go_sem,h1,h7]
  refine a0d (by decide) fun s2 hs he=> ?_
  simp (disch:=omega) [go_sem,hs,a3v,h1,bad,dn,a0t]
 ·have h1':¬ (args.length:Int)<=a:=by omega
  have hlt:a < args.length:=by omega
  have hg:args[a]! =args[a]:=by simp [hlt]
  obtain ⟨tl,htl⟩:∃ tl,tl=args.drop (a+1):=⟨_,rfl⟩
  have hd:tl.length < 2 ^ 36:=by rw [htl]; simp; omega
  have e1:((args.length:Int) - ((a:Int)+1)).toNat=tl.length:=by rw [htl]; simp; omega
  have e2:List.take tl.length (List.drop (a+1) (List.map li args))=List.map li tl:=by rw [htl,<-List.map_drop,List.take_of_length_le (by simp)]
  by_cases z:args[a]=0
  ·simp (disch:=omega) [go_sem,a4u,h1,h1',hlt,z]
   refine a0b ?_
   simp (disch:=omega) [go_sem,hlt,z]
   simp only [e1,e2]
   refine a0y (b1f tl (by omega)) rfl (a6n _) (by simp) [32] (by simp) (by simp (disch:=omega) [go_sem]) ?_
   simp (disch:=omega) [go_sem,hlt,z]
   refine a0d (by decide) fun s2 hs he=> ?_
   simp (disch:=omega) [go_sem,hs,a0h]
   refine a0j (a04 hS.three tl false (by omega)) (a0o _) (by simp (disch:=omega) [go_sem]) ?_
   cases hv:(a1a tl).isNil with
   | true=>simp (disch:=omega) [go_sem,hs,hv,a3v,h1,hg,z,<-htl,chk,a0t]
   | false=>simp (disch:=omega) [go_sem,hs,hv,a3v,h1,hg,z,<-htl,chk,a0t,dn]
  ·by_cases o:args[a]=1
   ·have z':¬ (1:Int)=0:=by omega
    simp (disch:=omega) [go_sem,a4u,h1,h1',hlt,o]
    refine a0b ?_
    simp (disch:=omega) [go_sem,hlt,o]
    simp only [e1,e2]
    refine a0y (b1f tl (by omega)) rfl (a6n _) (by simp) [32] (by simp) (by simp (disch:=omega) [go_sem]) ?_
    simp (disch:=omega) [go_sem,hlt,o]
    refine a0d (by decide) fun s2 hs he=> ?_
    simp (disch:=omega) [go_sem,hs,a0h]
    refine a0j (a04 hS.three tl true (by omega)) (a0o _) (by simp (disch:=omega) [go_sem]) ?_
    cases hv:(a1a tl).isNil with
    | true=>simp (disch:=omega) [go_sem,hs,hv,a3v,h1,hg,o,<-htl,chk,a0t]
    | false=>simp (disch:=omega) [go_sem,hs,hv,a3v,h1,hg,o,<-htl,chk,a0t,dn]
   ·simp (disch:=omega) [go_sem,a4u,h1,h1',hlt,z,o]
    refine a0b ?_
    simp (disch:=omega) [go_sem,h3]
    refine a0d (by decide) fun s2 hs he=> ?_
    simp (disch:=omega) [go_sem,hs,a3v,h1,hg,z,o,bad,dn,a0t]
end
structure Lk where
 ord:List Int
 descs:List Ds
 hin:Ds
 ws:List Ds
 input:Bool
 keys:List Int
 vals:List Ds
def eLk (l:Lk):List AV:=[slI l.ord,.own 2 l.descs.length (fm eD l.descs),slI l.hin.shape,lb l.hin.wide,.own 2 l.ws.length (fm eD l.ws),lb l.input,.mp l.keys (l.vals.map fun d=> .agg (eD d))]
def inR (l:Lk) (args:List Int):Dr×Lk:=
 if (a3v args 0).2.isNil=true then
  if l.input=true/\(a3v args 0).1≠l.hin then (bad 6,l) else (a3v args 0,{ l with input:=true,hin:=(a3v args 0).1 })
 else ((dn,(a3v args 0).2),l)
section
variable {G:GG} {bk:Nat->Nat×Nat} {Q:Exit->St->Prop} {st:St}
theorem g3e (hS:SentO G bk) (l:Lk) (n:Nd) (hl:l.hin.shape.length < 2 ^ 36) (hn:n.args.length < 2 ^ 36) (hf:(a3v n.args 0).1.shape.length < 2 ^ 36):ACallsX pg G b1b [.var (eLk l),.agg (a5q n)] (b25 bk (inR l n.args).1) [(0,.var (eLk (inR l n.args).2))]:=by
 have h7:=hS.val 0 (by decide)
 refine a79 (pins:=[0]) (by kernel_rfl) rfl rfl (by simp [go_sem]) rfl ?_
 simp (disch:=omega) [go_sem,a6s,eLk,a5q]
 refine a0j (d2d hS n.args 0 hn (by omega)) (by simp [go_sem]) (by simp (disch:=omega) [go_sem]) ?_
 generalize hr:a3v n.args 0=r at *
 obtain ⟨d,e⟩:=r
 simp only at hf
 cases he:e.isNil with
 | false=>
  simp (disch:=omega) [go_sem,he,inR,hr,dn]
 | true=>
  obtain rfl:e= .nil:=by cases e<;>simp_all [Er.isNil]
  simp (disch:=omega) [go_sem,he]
  refine a0b ?_
  cases hi:l.input with
  | false=>
   simp (disch:=omega) [go_sem,hi]
   refine a0d (by decide) fun s2 hs hep=> ?_
   simp (disch:=omega) [go_sem,hs,hep]
   refine a0j ((a2s d.shape d.wide (by omega)).shown (res':= .agg [slI d.shape,lb d.wide]) (by simp (disch:=omega) [go_sem])) (by simp (disch:=omega) [go_sem]) (by simp (disch:=omega) [go_sem]) ?_
   simp (disch:=omega) [go_sem,hs,hep,a0h,inR,hr,he,hi,a0t]
  | true=>
   simp (disch:=omega) [go_sem,hi]
   refine a0y (a40 d l.hin (by omega) (by omega)) rfl rfl (by simp) [29] (by simp) (by simp (disch:=omega) [go_sem]) ?_
   simp (disch:=omega) [go_sem,hi]
   refine a0d (by decide) fun s2 hs hep=> ?_
   by_cases hd:d=l.hin
   ·simp (disch:=omega) [go_sem,hs,hep,hd]
    subst hd
    refine a0j ((a2s l.hin.shape l.hin.wide (by omega)).shown (res':= .agg [slI l.hin.shape,lb l.hin.wide]) (by simp (disch:=omega) [go_sem])) (by simp (disch:=omega) [go_sem]) (by simp (disch:=omega) [go_sem]) ?_
    simp (disch:=omega) [go_sem,hs,hep,a0h,inR,hr,he,hi,a0t]
   ·simp (disch:=omega) [go_sem,hs,hep,hd]
    refine a0b ?_
    simp (disch:=omega) [go_sem,hs,hep,h7]
    refine a0d (by decide) fun s3 hs3 hep3=> ?_
    simp (disch:=omega) [go_sem,hs3,hep3,hs,hep,inR,hr,he,hi,hd,bad,dn,a0t]
end
def c3g:List Int->List Ds->Int->Option Ds
 | k::ks,v::vs,n=>if k=n then some v else c3g ks vs n
 | _,_,_=>none
def b5d:List Int->List Ds->Int->Ds->List Int×List Ds
 | k::ks,v::vs,n,x=>if k=n then (k::ks,x::vs) else (k::(b5d ks vs n x).1,v::(b5d ks vs n x).2)
 | _,_,n,x=>([n],[x])
theorem b1p (f:Ds->AV):∀ (keys:List Int) (vals:List Ds) (n:Int),a31 keys (vals.map f) n=(c3g keys vals n).map f
 | [],_,n=>rfl
 | k::ks,[],n=>rfl
 | k::ks,v::vs,n=>by
  simp only [List.map_cons,a31,c3g]
  split
  ·rfl
  ·exact b1p f ks vs n
theorem b56 (f:Ds->AV):∀ (keys:List Int) (vals:List Ds) (n:Int) (x:Ds),a2y keys (vals.map f) n (f x)=((b5d keys vals n x).1,(b5d keys vals n x).2.map f)
 | [],_,n,x=>rfl
 | k::ks,[],n,x=>rfl
 | k::ks,v::vs,n,x=>by
  simp only [List.map_cons,a2y,b5d]
  split
  ·rfl
  ·rw [b56 f ks vs n x]; rfl
theorem c3h:∀ {keys:List Int} {vals:List Ds} {n:Int} {d:Ds},c3g keys vals n=some d->d∈vals
 | [],_,n,d,h=>by simp [c3g] at h
 | k::ks,[],n,d,h=>by simp [c3g] at h
 | k::ks,v::vs,n,d,h=>by
  simp only [c3g] at h
  split at h
  ·simp only [Option.some.injEq] at h; simp [h]
  ·exact List.mem_cons_of_mem _ (c3h h)
def b4j (ws:List Ds) (k:Nat):List Ds:=ws++List.replicate (k+1 - ws.length) dn
def wtR (l:Lk) (args:List Int):Dr×Lk:=
 if args.length < 2 then (bad 6,l)
 else if args[0]! < 0\/8<=args[0]! then (bad 3,l)
 else if (a3v args 1).2.isNil=true then
  if (c3g l.keys l.vals args[0]!).all (fun was=>decide ((a3v args 1).1=was))=true then
   (a3v args 1,{ l with keys:=(b5d l.keys l.vals args[0]! (a3v args 1).1).1,vals:=(b5d l.keys l.vals args[0]! (a3v args 1).1).2,ws:=(b4j l.ws args[0]!.toNat).set args[0]!.toNat (a3v args 1).1 })
  else (bad 6,l)
 else ((dn,(a3v args 1).2),l)
section
variable {G:GG} {bk:Nat->Nat×Nat} {Q:Exit->St->Prop} {st:St}
theorem c7k (keys:List Int) (vals:List Ds) (n:Int) (x:Ds):a2y keys (vals.map fun d=>AV.agg [AV.sl d.shape.length (List.map li d.shape),lb d.wide]) n (.agg [AV.sl x.shape.length (List.map li x.shape),lb x.wide])=((b5d keys vals n x).1,(b5d keys vals n x).2.map fun d=>AV.agg [AV.sl d.shape.length (List.map li d.shape),lb d.wide]):=b56 (fun d=>AV.agg [AV.sl d.shape.length (List.map li d.shape),lb d.wide]) keys vals n x
theorem b90 {ws:List Ds} {k:Nat}:k < (b4j ws k).length:=by simp [b4j]; omega
theorem d1n {α:Type} {a r vs:List α} {j:Nat}:a0h (a++r) (a.length+j) vs=a++a0h r j vs:=by
 simp only [a0h]
 rw [List.take_append,List.drop_append]
 rw [List.take_of_length_le (by omega),show a.length+j - a.length=j by omega,List.drop_eq_nil_of_le (by omega),show a.length+j+vs.length - a.length=j+vs.length by omega]
 simp
theorem b3z {α:Type} {f:α->List AV} {c:Nat} (hf:∀ x,(f x).length=c) (y:α):∀ {xs:List α} {i:Nat},i < xs.length->a0h (fm f xs) (i*c) (f y)=fm f (xs.set i y)
 | x::xs,0,_=>by
  simp only [List.set_cons_zero,a3z,a0h,Nat.zero_mul,Nat.zero_add,hf,List.take_zero,List.nil_append]
  rw [List.drop_append,List.drop_eq_nil_of_le (by rw [hf]; omega),hf,Nat.sub_self]
  simp
 | x::xs,i+1,h=>by
  have ih:=b3z hf y (xs:=xs) (i:=i) (by simpa using h)
  rw [List.set_cons_succ,a3z,a3z,<-ih,show (i+1)*c=(f x).length+i*c by rw [hf,Nat.succ_mul]; omega,d1n]
theorem c27 {xs:List Ds} {i:Nat} {d:Ds} (h:i < xs.length):a0h (fm eD xs) (i*2) [slI d.shape,lb d.wide]=fm eD (xs.set i d):=b3z (f:=eD) (c:=2) (fun _=>rfl) d h
theorem f80 {l:Lk} {k:Nat} {d:Ds} (hk:k < 8) (hw:l.ws.length<=8)
  (h:st.s 0= .var (eLk l)/\st.s 4= .var [.own 1 0 [],lb false]/\st.s 6=li k/\st.s 7= .var (eD d))
  (hex:∀ s:St,s.s 0= .var (eLk { l with ws:=b4j l.ws k })/\s.s 4= .var [.own 1 0 [],lb false]/\s.s 6=li k/\s.s 7= .var (eD d)->Q (.exit 0) s):AW pg G 93 (.loop a1i) Q st:=by
 refine a1c Nat (fun j st=>j<=k+1 - l.ws.length/\st.s 0= .var (eLk { l with ws:=l.ws++List.replicate j dn })/\st.s 4= .var [.own 1 0 [],lb false]/\st.s 6=li k/\st.s 7= .var (eD d)) (fun j=>k+1 - l.ws.length - j) 0 ⟨by omega,by simpa using h⟩ ?_
 clear h
 rintro j st K ⟨hj,h⟩ hK
 obtain ⟨v,hv⟩:∃ v,v=l.ws++List.replicate j dn:=⟨_,rfl⟩
 have hvl:v.length=l.ws.length+j:=by rw [hv]; simp
 rw [<-hv] at h
 by_cases c:v.length<=k
 ·have c':(v.length:Int)<=k:=by omega
  simp only [eLk] at h
  simp (disch:=omega) [go_sem,a1i,h,c,c']
  refine hK (j+1) _ ⟨by omega,?_⟩ (by omega)
  rw [show l.ws++List.replicate (j+1) dn=v++[dn] by rw [hv,List.replicate_succ',List.append_assoc]]
  simp (disch:=omega) [go_sem,h,eLk,a7v,a82,dn]
 ·have c':¬ (v.length:Int)<=k:=by omega
  simp only [eLk] at h
  simp (disch:=omega) [go_sem,a1i,h,c,c']
  have e:b4j l.ws k=v:=by rw [hv,b4j,show k+1 - l.ws.length=j by omega]
  refine hex _ ?_
  rw [e]
  simp (disch:=omega) [go_sem,h,eLk]
theorem c8u {l:Lk} {kk:Nat} {d:Ds} (hk8:kk < 8) (hw:l.ws.length<=8) (hf:d.shape.length < 2 ^ 36)
  (h0:st.s 0= .var (eLk l)/\st.s 4= .var [.own 1 0 [],lb false]/\st.s 6=li kk/\st.s 7= .var (eD d))
  (hex:∀ s:St,s.s 0= .var (eLk { l with keys:=(b5d l.keys l.vals kk d).1,vals:=(b5d l.keys l.vals kk d).2,ws:=(b4j l.ws kk).set kk d })/\s.s 4= .var (eD d)/\s.s 5= .lit .nilIface->Q .ret s) :
  AW pg G 93 (.draw order_looker_weight_r12 [[],[0],[1],[2],[],[],[3,4,5,0,1,2,3,4,5]]) (b05 (AW pg G 93 (.seq (.block 0 (.loop a1i)) (.seq (.draw order_looker_weight_r15 [[],[0],[1],[2],[3],[],[],[6],[4,5,0,1,2,3,4,5,6,7],[8,7,7,0,1,2,3,4,5,6,7]]) (.seq (.reg order_looker_weight_r16) .ret))) Q) Q) st:=by
 simp only [eLk] at h0
 refine a0b ?_
 simp (disch:=omega) [go_sem,h0,b2h,b19,c7k]
 refine a0d (by decide) fun s2 hs hep=> ?_
 simp (disch:=omega) [go_sem,hs,hep,h0]
 refine f80 (l:={ l with keys:=(b5d l.keys l.vals kk d).1,vals:=(b5d l.keys l.vals kk d).2 }) (k:=kk) (d:=d) hk8 hw (by simp (disch:=omega) [go_sem,hs,hep,eLk,h0]) (fun s h=> ?_)
 simp only [eLk] at h
 simp (disch:=omega) [go_sem,h]
 refine a0b ?_
 simp (disch:=omega) [go_sem,h,b90]
 refine a99 ((a2s d.shape d.wide (by omega)).shown (res':= .agg [slI d.shape,lb d.wide]) (by simp (disch:=omega) [go_sem])) (by simp (disch:=omega) [go_sem]) (by simp (disch:=omega) [go_sem,h]) (by simp (disch:=omega) [go_sem,a0v,a8l]) [90] (by simp) (by simp (disch:=omega) [go_sem,h]) ?_
 have hp:=b90 (ws:=l.ws) (k:=kk)
 have hp2:kk*2+2<=(b4j l.ws kk).length*2:=by omega
 simp (disch:=omega) [go_sem,h,hp,hp2]
 refine a0d (by decide) fun s3 hs3 hep3=> ?_
 simp (disch:=omega) [go_sem,hs3,hep3,h,hp,hp2,c27]
 refine hex _ ?_
 simp (disch:=omega) [go_sem,hs3,hep3,h,hp,hp2,c27,eLk]
theorem g30 (hS:SentO G bk) (l:Lk) (n:Nd) (hl:∀ d∈l.vals,d.shape.length < 2 ^ 36) (hw:l.ws.length<=8) (hn:n.args.length < 2 ^ 36) (hf:(a3v n.args 1).1.shape.length < 2 ^ 36):ACallsX pg G a7p [.var (eLk l),.agg (a5q n)] (b25 bk (wtR l n.args).1) [(0,.var (eLk (wtR l n.args).2))]:=by
 have h7:=hS.val 0 (by decide)
 have h3:=hS.val 5 (by decide)
 refine a59 (pins:=[0]) (by kernel_rfl) rfl rfl (by simp [go_sem]) rfl ?_
 by_cases h2:n.args.length < 2
 ·have h2':(n.args.length:Int) < 2:=by omega
  simp (disch:=omega) [go_sem,a1n,eLk,a5q,h2']
  refine a0b ?_
  simp (disch:=omega) [go_sem,h7]
  refine a0d (by decide) fun s2 hs hep=> ?_
  simp (disch:=omega) [go_sem,hs,hep,wtR,h2,bad,dn,a0t]
 have h2':¬ (n.args.length:Int) < 2:=by omega
 have h0:0 < n.args.length:=by omega
 have hg:n.args[0]! =n.args[0]:=by simp [h0]
 generalize hk:n.args[0]=k at *
 by_cases z:k < 0
 ·simp (disch:=omega) [go_sem,a1n,eLk,a5q,h2',h0,hk,z]
  refine a0b ?_
  simp (disch:=omega) [go_sem,h3]
  refine a0d (by decide) fun s2 hs hep=> ?_
  simp (disch:=omega) [go_sem,hs,hep,wtR,h2,hk,z,bad,dn,a0t]
 by_cases o:8<=k
 ·simp (disch:=omega) [go_sem,a1n,eLk,a5q,h2',h0,hk,z,o]
  refine a0b ?_
  simp (disch:=omega) [go_sem,h3]
  refine a0d (by decide) fun s2 hs hep=> ?_
  simp (disch:=omega) [go_sem,hs,hep,wtR,h2,hk,z,o,bad,dn,a0t]
 obtain ⟨kk,rfl⟩:∃ kk:Nat,k=kk:=⟨k.toNat,by omega⟩
 simp (disch:=omega) [go_sem,a1n,eLk,a5q,h2',h0,hk,z,o]
 refine a0j (d2d hS n.args 1 hn (by omega)) (by simp [go_sem]) (by simp (disch:=omega) [go_sem]) ?_
 generalize hr:a3v n.args 1=r at *
 obtain ⟨d,e⟩:=r
 simp only at hf
 cases he:e.isNil with
 | false=>
  simp (disch:=omega) [go_sem,he,wtR,h2,hk,z,o,hr,dn]
 | true=>
  obtain rfl:e= .nil:=by cases e<;>simp_all [Er.isNil]
  cases hq:c3g l.keys l.vals kk with
  | none=>
   simp (disch:=omega) [go_sem,he,b1p,hq,a0h]
   refine c8u (l:=l) (kk:=kk) (d:=d) (by omega) hw hf (by simp (disch:=omega) [go_sem,eLk]) (fun s h=> ?_)
   simp only [eLk] at h
   simp (disch:=omega) [go_sem,h,wtR,h2,hk,z,o,hr,he,hq,a0t]
  | some was=>
   have hwas:was.shape.length < 2 ^ 36:=hl _ (c3h hq)
   simp (disch:=omega) [go_sem,he,b1p,hq,a0h]
   refine a0e (a40 d was (by omega) (by omega)) rfl rfl ?_
   by_cases hd:d=was
   ·subst hd
    simp (disch:=omega) [go_sem]
    refine c8u (l:=l) (kk:=kk) (d:=d) (by omega) hw hf (by simp (disch:=omega) [go_sem,eLk]) (fun s h=> ?_)
    simp only [eLk] at h
    simp (disch:=omega) [go_sem,h,wtR,h2,hk,z,o,hr,he,hq,a0t]
   ·simp (disch:=omega) [go_sem,hd]
    refine a0b ?_
    simp (disch:=omega) [go_sem,h7]
    refine a0d (by decide) fun s3 hs3 hep3=> ?_
    simp (disch:=omega) [go_sem,hs3,hep3,wtR,h2,hk,z,o,hr,he,hq,hd,bad,dn,a0t]
end
def lkD (l:Lk) (ks:List Int):List Ds:=ks.map fun k=>l.descs[k.toNat]!
@[simp] theorem d4p {l:Lk} {ks:List Int}:(lkD l ks).length=ks.length:=by simp [lkD]
def a3b (l:Lk) (n:Nd):Dr×Lk:=
 if a3d n.op=true then (opR n.op n.args (lkD l n.ins),l)
 else if n.op < 1\/3 < n.op then (bad 5,l)
 else if 0 < n.ins.length then (bad 6,l)
 else if n.op=1 then inR l n.args
 else if n.op=3 then wtR l n.args
 else if 0 < n.args.length then (bad 6,l)
 else if (a5s n.shape n.wide n.data).isNil=true then ((⟨n.shape,n.wide⟩,.nil),l)
 else ((dn,a5s n.shape n.wide n.data),l)
structure Lk.fin (l:Lk):Prop where
 descs:∀ d∈l.descs,d.shape.length < 2 ^ 40
 hin:l.hin.shape.length < 2 ^ 36
 vals:∀ d∈l.vals,d.shape.length < 2 ^ 36
 ws:l.ws.length<=8
theorem b0e {args:List Int} {a:Nat} (h:args.length < 2 ^ 36):(a3v args a).1.shape.length < 2 ^ 36:=by
 unfold a3v chk bad dn
 split
 ·simp
 ·split
  ·simp
  ·split
   ·simp; omega
   ·simp
theorem a3j {α:Type} {f:α->List AV} {k j:Nat} {xs:List α} (hf:∀ x,(f x).length=k) (h:xs.length=j):(fm f xs).take (j*k)=fm f xs:=by rw [<-h]; exact a4f hf
section
variable {G:GG} {bk:Nat->Nat×Nat} {Q:Exit->St->Prop} {st:St}
theorem d4z {l:Lk} {n:Nd} (hi:∀ k∈n.ins,0<=k/\k < l.descs.length) (hl:n.ins.length < 2 ^ 36)
  (h:st.s 0= .var (eLk l)/\st.s 3= .var (a5q n)/\st.s 4= .var [.own 1 0 [],lb false]/\st.s 5= .lit .nilIface/\st.s 6= .own 2 0 []/\st.s 15=slI n.ins/\st.s 16=li n.ins.length/\st.s 17=li 0)
  (hex:∀ s:St,s.s 0= .var (eLk l)/\s.s 3= .var (a5q n)/\s.s 4= .var [.own 1 0 [],lb false]/\s.s 5= .lit .nilIface/\s.s 6= .own 2 n.ins.length (fm eD (lkD l n.ins))->Q (.exit 1) s):AW pg G 95 (.loop a17) Q st:=by
 refine a1c Nat (fun j st=>j<=n.ins.length/\st.s 0= .var (eLk l)/\st.s 3= .var (a5q n)/\st.s 4= .var [.own 1 0 [],lb false]/\st.s 5= .lit .nilIface/\st.s 6= .own 2 j (fm eD (lkD l (n.ins.take j)))/\st.s 15=slI n.ins/\st.s 16=li n.ins.length/\st.s 17=li j) (fun j=>n.ins.length - j) 0 ⟨by omega,by simpa [fm,lkD] using h⟩ ?_
 clear h
 rintro j st K ⟨hj,h⟩ hK
 by_cases c:j < n.ins.length
 ·have hk:=hi _ (List.getElem_mem c)
  obtain ⟨kk,hkk⟩:∃ kk:Nat,n.ins[j]=kk:=⟨n.ins[j].toNat,by omega⟩
  rw [hkk] at hk
  have hk2:kk < l.descs.length:=by omega
  simp only [eLk] at h
  have ht:(fm eD (lkD l (n.ins.take j))).take (j*2)=fm eD (lkD l (n.ins.take j)):=a3j (fun _=>rfl) (by simp; omega)
  simp (disch:=omega) [go_sem,a17,h,c,hkk,hk2]
  have e:l.descs[((kk:Int)).toNat]! =l.descs[kk]:=by simp [hk2]
  refine hK (j+1) _ ⟨by omega,?_⟩ (by omega)
  have e2:lkD l (n.ins.take (j+1))=lkD l (n.ins.take j)++[l.descs[kk]]:=by
   rw [List.take_succ_eq_append_getElem c,lkD,List.map_append,List.map_cons,List.map_nil,hkk,e]; rfl
  rw [e2,a7v,a82]
  simp (disch:=omega) [go_sem,h,eLk,ht]
 ·have:j=n.ins.length:=by omega
  subst this
  simp (disch:=omega) [go_sem,a17,h]
  refine hex _ ?_
  simp (disch:=omega) [go_sem,h]
theorem e4w (hS:SentO G bk) (l:Lk) (n:Nd) (hf:l.fin) (hn:n.sh) (hi:a3d n.op=true->∀ k∈n.ins,0<=k/\k < l.descs.length):ACallsX pg G a9c [.var (eLk l),.agg (a5q n)] (b25 bk (a3b l n).1) [(0,.var (eLk (a3b l n).2))]:=by
 have h7:=hS.val 0 (by decide)
 have h4:=hS.val 4 (by decide)
 have hn1:=hn.ins
 have hn2:=hn.args
 have hn3:=hn.shape
 have hn4:=hn.data
 refine a68 (pins:=[0]) (by kernel_rfl) rfl rfl (by simp [go_sem]) rfl ?_
 simp (disch:=omega) [go_sem,a5o,a5q]
 refine a0e (c1z n.op) rfl rfl ?_
 cases hk:a3d n.op with
 | true=>
  simp (disch:=omega) [go_sem,hk]
  refine d4z (l:=l) (n:=n) (hi hk) hn1 (by simp (disch:=omega) [go_sem,a5q]) (fun s h=> ?_)
  simp only [a5q] at h
  simp (disch:=omega) [go_sem,h]
  have spec:=e40 hS n.op n.args (lkD l n.ins) (by
   intro d hd
   simp only [lkD,List.mem_map] at hd
   obtain ⟨k,hk2,rfl⟩:=hd
   obtain ⟨h1,h2⟩:=hi hk k hk2
   have hlt:k.toNat < l.descs.length:=by omega
   have:=hf.descs _ (List.getElem_mem hlt)
   simp only [hlt,getElem!_pos]
   omega) (by simp; omega) (by omega)
  simp only [slD,d4p] at spec
  have ht:(fm eD (lkD l n.ins)).take (n.ins.length*2)=fm eD (lkD l n.ins):=a3j (fun _=>rfl) (by simp)
  simp (disch:=omega) [go_sem,ht]
  refine b1d spec (a2t _) ?_ ?_<;>
  simp (disch:=omega) [go_sem,h,a0h,a3b,hk,eLk]
 | false=>
  simp (disch:=omega) [go_sem,hk]
  by_cases o1:n.op < 1
  ·simp (disch:=omega) [go_sem,o1]
   refine a0b ?_
   simp (disch:=omega) [go_sem,h4]
   refine a0d (by decide) fun s3 hs3 hep3=> ?_
   simp (disch:=omega) [go_sem,hs3,a3b,hk,o1,bad,dn,a0t,eLk]
  by_cases o3:3 < n.op
  ·simp (disch:=omega) [go_sem,o1,o3]
   refine a0b ?_
   simp (disch:=omega) [go_sem,h4]
   refine a0d (by decide) fun s3 hs3 hep3=> ?_
   simp (disch:=omega) [go_sem,hs3,a3b,hk,o1,o3,bad,dn,a0t,eLk]
  by_cases hi0:0 < n.ins.length
  ·simp (disch:=omega) [go_sem,o1,o3,hi0]
   refine a0b ?_
   simp (disch:=omega) [go_sem,h7]
   refine a0d (by decide) fun s3 hs3 hep3=> ?_
   simp (disch:=omega) [go_sem,hs3,a3b,hk,o1,o3,hi0,bad,dn,a0t,eLk]
  by_cases p1:n.op=1
  ·have spec:=g3e hS l n hf.hin (by omega) (b0e (by omega))
   simp only [a5q,p1] at spec
   simp (disch:=omega) [go_sem,o1,o3,hi0,p1]
   refine b6z spec rfl rfl rfl (by simp (disch:=omega) [go_sem]) ?_
   simp (disch:=omega) [go_sem,a0h,a3b,hk,o1,o3,hi0,p1,show a3d 1=false from rfl]
  by_cases p3:n.op=3
  ·have spec:=g30 hS l n hf.vals hf.ws (by omega) (b0e (by omega))
   simp only [a5q,p3] at spec
   simp (disch:=omega) [go_sem,o1,o3,hi0,p1,p3]
   refine b6z spec rfl rfl rfl (by simp (disch:=omega) [go_sem]) ?_
   simp (disch:=omega) [go_sem,a0h,a3b,hk,o1,o3,hi0,p1,p3,show a3d 3=false from rfl]
  by_cases ha0:0 < n.args.length
  ·simp (disch:=omega) [go_sem,o1,o3,hi0,p1,p3,ha0]
   refine a0b ?_
   simp (disch:=omega) [go_sem,h7]
   refine a0d (by decide) fun s3 hs3 hep3=> ?_
   simp (disch:=omega) [go_sem,hs3,a3b,hk,o1,o3,hi0,p1,p3,ha0,bad,dn,a0t,eLk]
  simp (disch:=omega) [go_sem,o1,o3,hi0,p1,p3,ha0]
  refine a0j (b43 hS.three n.shape n.wide n.data (by omega) (by omega)) (a0o _) (by simp (disch:=omega) [go_sem]) ?_
  cases hv:(a5s n.shape n.wide n.data).isNil with
  | false=>simp (disch:=omega) [go_sem,hv,a0h,a3b,hk,o1,o3,hi0,p1,p3,ha0,dn]
  | true=>
   simp (disch:=omega) [go_sem,hv]
   refine a0j ((a2s n.shape n.wide (by omega)).shown (res':= .agg [slI n.shape,lb n.wide]) (by simp (disch:=omega) [go_sem])) (by simp (disch:=omega) [go_sem]) (by simp (disch:=omega) [go_sem]) ?_
   simp (disch:=omega) [go_sem,hv,a0h,a3b,hk,o1,o3,hi0,p1,p3,ha0,a0t]
end
end Go.Ideal.Tryz
end
section
namespace Go.Ideal.Tryz
def a80:IC:=(.seq (.reg [oo 4 (.asg (.c .nilIface))]) (.seq (.reg [om 5 0,
 om 6 1,
 oc 7 43 [(false,(.t 5)),(false,(.t 6))] [3,38],
 oo 4 (.asg (.t 7))]) .ret))
abbrev b47:Nat:=26
theorem b1e:fnC pg 26 8 [(.tmp 4)] a80:=a0w Go.Proofs.Tryz.f26 [(.tmp 4)] (by kernel_rfl)
@[go_sem] theorem c5q:fnB pg 26=true:=by kernel_rfl
theorem c9j {G:GG} {bk:Nat->Nat×Nat} (hA:Around G bk) {e:Er} (he:e.wb) (hn:e.isNil=false) (k:Int):ACalls pg G b47 [li k,a0t bk e] (a0t bk (atE k e)):=by
 refine b1e rfl ?_
 simp (disch:=omega) [go_sem,a80]
 refine a0j (hA.ofw he hn k) (a0o _) (by simp (disch:=omega) [go_sem]) ?_
 simp (disch:=omega) [go_sem]
theorem c2a {l:Lk} {n:Nd}:(a3b l n).2.descs=l.descs/\(a3b l n).2.ord=l.ord:=by
 unfold a3b inR wtR
 repeat' split
 all_goals exact ⟨rfl,rfl⟩
theorem c3i:∀ {keys:List Int} {vals:List Ds} {n:Int} {x d:Ds},d∈(b5d keys vals n x).2->d=x\/d∈vals
 | [],_,n,x,d,h=>by simp [b5d] at h; exact .inl h
 | k::ks,[],n,x,d,h=>by simp [b5d] at h; exact .inl h
 | k::ks,v::vs,n,x,d,h=>by
  simp only [b5d] at h
  split at h
  ·rcases List.mem_cons.1 h with h | h
   ·exact .inl h
   ·exact .inr (by simp [h])
  ·rcases List.mem_cons.1 h with h | h
   ·exact .inr (by simp [h])
   ·rcases c3i h with h | h
    ·exact .inl h
    ·exact .inr (by simp [h])
theorem c7v {l:Lk} {n:Nd} (hf:l.fin) (hn:n.sh):(a3b l n).2.fin:=by
 obtain ⟨f1,f2,f3,f4⟩:=hf
 have hL:∀ a,(a3v n.args a).1.shape.length < 2 ^ 36:=fun a=>b0e hn.args
 unfold a3b
 split
 ·exact ⟨f1,f2,f3,f4⟩
 split
 ·exact ⟨f1,f2,f3,f4⟩
 split
 ·exact ⟨f1,f2,f3,f4⟩
 split
 ·unfold inR
  split
  ·split
   ·exact ⟨f1,f2,f3,f4⟩
   ·exact ⟨f1,hL 0,f3,f4⟩
  ·exact ⟨f1,f2,f3,f4⟩
 split
 ·unfold wtR
  split
  ·exact ⟨f1,f2,f3,f4⟩
  split
  ·exact ⟨f1,f2,f3,f4⟩
  split
  ·split
   ·rename_i hk _ _
    refine ⟨f1,f2,fun d hd=> ?_,?_⟩
    ·rcases c3i hd with rfl | hd
     ·exact hL 1
     ·exact f3 d hd
    ·simp only [List.length_set,b4j,List.length_append,List.length_replicate]
     omega
   ·exact ⟨f1,f2,f3,f4⟩
  ·exact ⟨f1,f2,f3,f4⟩
 split
 ·exact ⟨f1,f2,f3,f4⟩
 split
 ·exact ⟨f1,f2,f3,f4⟩
 ·exact ⟨f1,f2,f3,f4⟩
theorem c7w {l:Lk} {n:Nd} (hf:l.fin) (hn:n.sh) (hi:a3d n.op=true->∀ k∈n.ins,0<=k/\k < l.descs.length):(a3b l n).1.1.shape.length < 2 ^ 40:=by
 have hL:∀ a,(a3v n.args a).1.shape.length < 2 ^ 36:=fun a=>b0e hn.args
 have hs:=hn.shape
 have ha:=hn.args
 unfold a3b
 split
 ·rename_i hk
  refine c7y (fun d hd=> ?_) (by omega)
  simp only [lkD,List.mem_map] at hd
  obtain ⟨k,hk2,rfl⟩:=hd
  obtain ⟨h1,h2⟩:=hi hk k hk2
  have hlt:k.toNat < l.descs.length:=by omega
  simp only [hlt,getElem!_pos]
  exact hf.descs _ (List.getElem_mem hlt)
 split
 ·simp [bad,dn]
 split
 ·simp [bad,dn]
 split
 ·have:=hL 0
  unfold inR
  split
  ·split
   ·simp [bad,dn]
   ·simp only; omega
  ·simp [dn]
 split
 ·have:=hL 1
  unfold wtR
  split
  ·simp [bad,dn]
  split
  ·simp [bad,dn]
  split
  ·split
   ·simp only; omega
   ·simp [bad,dn]
  ·simp [dn]
 split
 ·simp [bad,dn]
 split
 ·simp only; omega
 ·simp [dn]
theorem c6k {sh:List Int}:(a1a sh).snt:=by
 rcases a5g sh with h | h | h<;>rw [h]
 ·exact b4u
 ·exact .inr ⟨2,by decide,rfl⟩
 ·exact .inr ⟨3,by decide,rfl⟩
theorem b0f {args:List Int} {a:Nat}:(a3v args a).2.snt:=by
 unfold a3v
 split
 ·exact .inr ⟨6,by decide,rfl⟩
 split
 ·exact .inr ⟨3,by decide,rfl⟩
 ·unfold chk
  split
  ·exact b4u
  ·exact c6k
theorem d05 {l:Lk} {n:Nd}:(a3b l n).1.2.wb:=by
 unfold a3b
 split
 ·exact d44.wb
 split
 ·exact .inr (.inl ⟨5,by decide,rfl⟩)
 split
 ·exact .inr (.inl ⟨6,by decide,rfl⟩)
 split
 ·unfold inR
  split
  ·split
   ·exact .inr (.inl ⟨6,by decide,rfl⟩)
   ·exact b0f.wb
  ·exact b0f.wb
 split
 ·unfold wtR
  split
  ·exact .inr (.inl ⟨6,by decide,rfl⟩)
  split
  ·exact .inr (.inl ⟨3,by decide,rfl⟩)
  split
  ·split
   ·exact b0f.wb
   ·exact .inr (.inl ⟨6,by decide,rfl⟩)
  ·exact b0f.wb
 split
 ·exact .inr (.inl ⟨6,by decide,rfl⟩)
 split
 ·exact b4u.wb
 ·exact c2u n.shape n.wide n.data
end Go.Ideal.Tryz
end
section
namespace Go.Ideal.Tryz
attribute [local go_sem] eD
instance:Inhabited Nd:=⟨⟨0,[],[],[],false,[]⟩⟩
structure Sn where
 ord:List Int
 descs:List Ds
 hin:Ds
 ws:List Ds
def sn0:Sn:=⟨[],[],dn,[]⟩
def eSn (s:Sn):List AV:=[slI s.ord,slD s.descs,slI s.hin.shape,lb s.hin.wide,slD s.ws]
def Lk.sn (l:Lk):Sn:=⟨l.ord,l.descs,l.hin,l.ws⟩
def a5m (ns:List Nd):Lk->List Int->Sn×Er
 | l,[]=>(l.sn,.nil)
 | l,i::is=>if (a3b l ns[i.toNat]!).1.2.isNil=true then a5m ns { (a3b l ns[i.toNat]!).2 with descs:=(a3b l ns[i.toNat]!).2.descs.set i.toNat (a3b l ns[i.toNat]!).1.1 } is else (sn0,atE i (a3b l ns[i.toNat]!).1.2)
def lk0 (ord:List Int) (n:Nat):Lk:=⟨ord,List.replicate n dn,dn,[],false,[],[]⟩
def ofR (g:Gr):Sn×Er:=
 if 64 < g.nodes.length then (sn0,.s 2)
 else if g.out < 0\/g.nodes.length<=g.out then (sn0,.s 0)
 else match a9r (g.nodes.map (·.ins)) with
  | .error e=>(sn0,.at e.1 (.s e.2))
  | .ok ord=>a5m g.nodes (lk0 ord g.nodes.length) ord
section
variable {G:GG} {bk:Nat->Nat×Nat} {Q:Exit->St->Prop} {st:St}
abbrev zSn:AV:= .var [.own 1 0 [],.own 2 0 [],.own 1 0 [],lb false,.own 2 0 []]
theorem f6w {g:Gr} (hl:g.nodes.length<=64)
  (h:st.s 1= .var [slN g.nodes,li g.out]/\st.s 2=zSn/\st.s 3= .lit .nilIface/\st.s 4= .own 1 0 []/\st.s 33=slN g.nodes/\st.s 34=li g.nodes.length/\st.s 35=li 0)
  (hex:∀ s:St,s.s 1= .var [slN g.nodes,li g.out]/\s.s 2=zSn/\s.s 3= .lit .nilIface/\s.s 4= .own 1 g.nodes.length ((g.nodes.map (·.ins)).map slI)->Q (.exit 0) s):AW pg G 108 (.loop a65) Q st:=by
 refine a1c Nat (fun j st=>j<=g.nodes.length/\st.s 1= .var [slN g.nodes,li g.out]/\st.s 2=zSn/\st.s 3= .lit .nilIface/\st.s 4= .own 1 j (((g.nodes.take j).map (·.ins)).map slI)/\st.s 33=slN g.nodes/\st.s 34=li g.nodes.length/\st.s 35=li j) (fun j=>g.nodes.length - j) 0 ⟨by omega,by simpa using h⟩ ?_
 clear h
 rintro j st K ⟨hj,h⟩ hK
 by_cases c:j < g.nodes.length
 ·have e2:((g.nodes.take (j+1)).map (·.ins)).map slI=((g.nodes.take j).map (·.ins)).map slI++[slI g.nodes[j].ins]:=by
   rw [List.take_succ_eq_append_getElem c,List.map_append,List.map_append]; rfl
  have ht:(((g.nodes.take j).map (·.ins)).map slI).take j=((g.nodes.take j).map (·.ins)).map slI:=List.take_of_length_le (by simp; omega)
  generalize hv:((g.nodes.take j).map (·.ins)).map slI=v at *
  simp (disch:=omega) [go_sem,a65,h,c,ht]
  refine hK (j+1) _ ⟨by omega,?_⟩ (by omega)
  rw [e2]
  simp (disch:=omega) [go_sem,h,ht]
 ·have:j=g.nodes.length:=by omega
  subst this
  rw [List.take_length] at h
  generalize hv:(g.nodes.map (·.ins)).map slI=v at *
  simp (disch:=omega) [go_sem,a65,h]
  exact hex _ (by simp (disch:=omega) [go_sem,h])
theorem d5f {n:Nat}:a6w n [.sl 0 [],.lit (.bool false)]=fm eD (List.replicate n dn):=by
 induction n with
 | zero=>rfl
 | succ n ih=>rw [List.replicate_succ,a3z,<-ih]; simp [a6w,List.replicate_succ,eD,dn]
theorem f6x (hS:SentO G bk) (hA:Around G bk) {g:Gr} (hf:∀ n∈g.nodes,n.sh) (hl:g.nodes.length<=64) {ord:List Int} (hord:∀ x∈ord,0<=x/\x < (g.nodes.length:Int)) (hlo:ord.length < 2 ^ 36)
  (hins:∀ n∈g.nodes,∀ k∈n.ins,0<=k/\k < (g.nodes.length:Int)) {l0:Lk} (hl0:l0.fin) (hd0:l0.descs.length=g.nodes.length)
  (h:st.s 1= .var [slN g.nodes,li g.out]/\st.s 2=zSn/\st.s 3= .lit .nilIface/\st.s 7= .var (eLk l0)/\st.s 73=slI ord/\st.s 74=li ord.length/\st.s 75=li 0)
  (hret:∀ e,a5m g.nodes l0 ord=(sn0,e)->∀ s:St,s.s 2= .var (eSn sn0)/\s.s 3=a0t bk e->Q .ret s)
  (hex:∀ l,a5m g.nodes l0 ord=(l.sn,.nil)->∀ s:St,s.s 2=zSn/\s.s 7= .var (eLk l)->Q (.exit 2) s):AW pg G 108 (.loop a66) Q st:=by
 refine a1c (Nat×Lk) (fun p st=>p.1<=ord.length/\p.2.fin/\p.2.descs.length=g.nodes.length/\a5m g.nodes p.2 (ord.drop p.1)=a5m g.nodes l0 ord/\st.s 1= .var [slN g.nodes,li g.out]/\st.s 2=zSn/\st.s 3= .lit .nilIface/\st.s 7= .var (eLk p.2)/\st.s 73=slI ord/\st.s 74=li ord.length/\st.s 75=li p.1) (fun p=>ord.length - p.1) (0,l0) ⟨by simp,hl0,hd0,by simp,h⟩ ?_
 clear h
 rintro ⟨j,l⟩ st K ⟨hj,hfl,hd,hm,h⟩ hK
 simp only at hj hfl hd hm h
 by_cases c:j < ord.length
 ·have hx:=hord _ (List.getElem_mem c)
  obtain ⟨i,hi⟩:∃ i:Nat,ord[j]=i:=⟨ord[j].toNat,by omega⟩
  rw [hi] at hx
  have hin:i < g.nodes.length:=by omega
  have hmem:=List.getElem_mem hin
  have hn:=hf _ hmem
  have spec:=e4w hS l g.nodes[i] hfl hn (fun _ k hk=>by rw [hd]; exact hins _ hmem k hk)
  rw [List.drop_eq_getElem_cons c,a5m,hi,show g.nodes[((i:Int)).toNat]! =g.nodes[i] by simp [hin]] at hm
  have hfin:=c7v hfl hn
  have hlen:=c7w hfl hn (fun _ k hk=>by rw [hd]; exact hins _ hmem k hk)
  have hwb:=d05 (l:=l) (n:=g.nodes[i])
  have hde:=(c2a (l:=l) (n:=g.nodes[i])).1
  generalize hr:a3b l g.nodes[i]=r at *
  obtain ⟨⟨d,e⟩,l2⟩:=r
  simp only at hm hfin hlen hwb hde
  simp only [a5q] at spec
  simp (disch:=omega) [go_sem,a66,h,c,hi,hin]
  refine b6z spec rfl rfl rfl (by simp (disch:=omega) [go_sem,h]) ?_
  cases he:e.isNil with
  | false=>
   simp (disch:=omega) [go_sem,h,he,a0h]
   refine a0j (c9j hA hwb he i) (a0o _) (by simp (disch:=omega) [go_sem,h]) ?_
   simp (disch:=omega) [go_sem,h,he,a0h]
   refine hret (atE i e) (by rw [<-hm]; simp [he]) _ (by simp (disch:=omega) [go_sem,h,sn0,eSn,dn,a7w])
  | true=>
   simp (disch:=omega) [go_sem,h,he,a0h,eLk]
   have hi2:i < l2.descs.length:=by rw [hde,hd]; exact hin
   have hi3:i*2+2<=l2.descs.length*2:=by omega
   refine a0b ?_
   simp (disch:=omega) [go_sem,h,hi2,hi3]
   refine a0d (by decide) fun s3 hs3 hep3=> ?_
   simp (disch:=omega) [go_sem,hs3,hep3,h,hi2,hi3,c27]
   simp only [he,if_true,Int.toNat_natCast] at hm
   refine hK (j+1,{ l2 with descs:=l2.descs.set i d }) _ ⟨by simp only; omega,⟨fun x hx=> ?_,hfin.hin,hfin.vals,hfin.ws⟩,by simp only [List.length_set]; rw [hde]; exact hd,hm,?_⟩ (by simp only; omega)
   ·rcases List.mem_or_eq_of_mem_set hx with hx | rfl
    ·exact hfin.descs _ hx
    ·exact hlen
   ·simp (disch:=omega) [go_sem,hs3,hep3,h,hi2,hi3,c27,eLk]
 ·have:j=ord.length:=by omega
  subst this
  simp (disch:=omega) [go_sem,a66,h]
  rw [List.drop_length,a5m] at hm
  exact hex l hm.symm _ (by simp (disch:=omega) [go_sem,h])
theorem g1y (hS:SentO G bk) (hA:Around G bk) (g:Gr) (hf:∀ n∈g.nodes,n.sh) (hn:g.nodes.length < 2 ^ 36) (htot:tot (g.nodes.map (·.ins)) < 2 ^ 40):ACalls pg G c36 [d0r g] (.tup [.agg (eSn (ofR g).1),a0t bk (ofR g).2]):=by
 have h2:=hS.val 1 (by decide)
 have h0:=hS.val 2 (by decide)
 refine b7r rfl ?_
 by_cases c1:64 < g.nodes.length
 ·have c1':(64:Int) < g.nodes.length:=by omega
  simp (disch:=omega) [go_sem,a6r,c1,c1']
  refine a0b ?_
  simp (disch:=omega) [go_sem,h2]
  refine a0d (by decide) fun s2 hs hep=> ?_
  simp (disch:=omega) [go_sem,hs,ofR,c1,sn0,eSn,dn,a0t,a7w]
 have c1':¬ (64:Int) < g.nodes.length:=by omega
 by_cases c2:g.out < 0
 ·simp (disch:=omega) [go_sem,a6r,c1,c1',c2]
  refine a0b ?_
  simp (disch:=omega) [go_sem,h0]
  refine a0d (by decide) fun s2 hs hep=> ?_
  simp (disch:=omega) [go_sem,hs,ofR,c1,c2,sn0,eSn,dn,a0t,a7w]
 by_cases c3:g.nodes.length<=g.out
 ·simp (disch:=omega) [go_sem,a6r,c1,c1',c2,c3]
  refine a0b ?_
  simp (disch:=omega) [go_sem,h0]
  refine a0d (by decide) fun s2 hs hep=> ?_
  simp (disch:=omega) [go_sem,hs,ofR,c1,c2,c3,sn0,eSn,dn,a0t,a7w]
 simp (disch:=omega) [go_sem,a6r,c1,c1',c2,c3]
 refine f6w (g:=g) (by omega) (by simp (disch:=omega) [go_sem]) (fun s h=> ?_)
 have spec:=e6m hS (g.nodes.map (·.ins)) (by simp; omega) htot
 have hz:a1k ((g.nodes.map (·.ins)).map slI)=(g.nodes.map (·.ins)).map slI:=by simp [go_sem]
 simp only [b3e,List.length_map] at spec
 generalize hv:(g.nodes.map (·.ins)).map slI=v at *
 have ht:v.take g.nodes.length=v:=List.take_of_length_le (by rw [<-hv]; simp)
 simp (disch:=omega) [go_sem,h,ht,hz]
 cases ho:a9r (g.nodes.map (·.ins)) with
 | error e=>
  rw [ho] at spec
  refine b1d spec (by simp [c94,go_sem,noRef]) ?_ ?_<;>
  simp (disch:=omega) [go_sem,c94,h,a0h,ofR,c1,c2,c3,ho,sn0,eSn,dn,a7w,Er.isNil]
 | ok ord=>
  rw [ho] at spec
  refine a0e spec (by simp [c94,go_sem,noRef]) (by simp [c94,a0x,a03,a1q]) ?_
  have hx:=b7t (ins:=g.nodes.map (·.ins)) (fun r hr=>by
   obtain ⟨n,hn2,rfl⟩:=List.mem_map.1 hr
   have:=(hf n hn2).ins
   omega) ho
  have hlen:=c71 (ins:=g.nodes.map (·.ins)) (fun r hr=>by
   obtain ⟨n,hn2,rfl⟩:=List.mem_map.1 hr
   have:=(hf n hn2).ins
   omega) ho
  simp only [List.length_map] at hx hlen
  simp (disch:=omega) [go_sem,c94,h,a0h,d5f]
  refine f6x hS hA (g:=g) hf (by omega) (ord:=ord) hx.2.2.1 (by omega) (fun n hn2=>hx.2.2.2.2 _ (List.mem_map.2 ⟨n,hn2,rfl⟩)) (l0:=lk0 ord g.nodes.length) ⟨?_,by simp [lk0,dn],by simp [lk0],by simp [lk0]⟩ (by simp [lk0]) (by simp (disch:=omega) [go_sem,h,lk0,eLk,a7w,dn]) (fun e hm s h=> ?_) (fun l hm s h=> ?_)
  ·intro d hd
   simp only [lk0,List.mem_replicate] at hd
   rw [hd.2]; simp [dn]
  ·have e1:eSn sn0=[.sl 0 [],.sl 0 [],.sl 0 [],lb false,.sl 0 []]:=rfl
   rw [e1] at h
   simp (disch:=omega) [go_sem,h,ofR,c1,c2,c3,ho,hm,e1]
  ·simp only [eLk] at h
   simp (disch:=omega) [go_sem,h,a0h,ofR,c1,c2,c3,ho,hm,eSn,Lk.sn,a0t]
end
end Go.Ideal.Tryz
end
