/- Part Qam of the proof: walks on a machine that is proved sound. -/
import Derived.Test.YtlemfkimffoiiaaGreatDoorQal
set_option linter.unusedVariables false
set_option linter.unusedSimpArgs false
set_option maxHeartbeats 4000000
set_option maxRecDepth 10000
section
namespace Go.Ideal.Tryz
attribute [local go_sem] eD eT eV
section
variable {G:GG} {bk:Nat->Nat×Nat} {Q:Exit->St->Prop} {st:St}
theorem e6z (hS:SentO G bk) (a:Ds) (ha:a.shape.length < 2 ^ 62):ACalls pg G c5x [.agg (eD a)] (b25 bk (b73 a)):=by
 have h7:=hS.val 0 (by decide)
 by_cases he:a1a a.shape= .nil
 ·by_cases c1:a.shape.length=2
  ·obtain ⟨ash,aw⟩:=a
   obtain ⟨x,y,rfl⟩:=c0l c1
   have hr:b73 ⟨[x,y],aw⟩=(⟨[y,x],aw⟩,.nil):=by simp [b73,chk,he,Er.isNil]
   rw [hr]
   refine ACalls.shown (res:= .tup [.agg [owI [y,x],lb aw],.lit .nilIface]) ?_ rfl
   refine a78 rfl ?_
   simp (disch:=omega) [go_sem,b0s]
   refine a0j (a04 hS.three [x,y] aw (by simp)) (a0o _) (by simp (disch:=omega) [go_sem]) ?_
   simp (disch:=omega) [go_sem,he,Er.isNil]
   refine a0b ?_
   simp (disch:=omega) [go_sem]
   refine a0d (by decide) fun s2 hs2 hes2=> ?_
   simp (disch:=omega) [go_sem,hs2]
  ·have c1':¬ (a.shape.length:Int)=2:=by omega
   have hr:b73 a=(dn,.s 6):=by simp only [b73,chk,he,Er.isNil,if_true,c1,if_false]; rfl
   rw [hr]
   refine a78 rfl ?_
   simp (disch:=omega) [go_sem,b0s]
   refine a0j (a04 hS.three a.shape a.wide ha) (a0o _) (by simp (disch:=omega) [go_sem]) ?_
   simp (disch:=omega) [go_sem,he,Er.isNil,c1']
   refine a0b ?_
   simp (disch:=omega) [go_sem,h7,dn,a0t]
   refine a0d (by decide) fun s2 hs2 hes2=> ?_
   simp (disch:=omega) [go_sem,hs2,h7,dn,a0t]
 ·have he':=a3c he
  have hr:b73 a=(dn,a1a a.shape):=by simp only [b73,chk,he']; rfl
  rw [hr]
  refine a78 rfl ?_
  simp (disch:=omega) [go_sem,b0s]
  refine a0j (a04 hS.three a.shape a.wide ha) (a0o _) (by simp (disch:=omega) [go_sem]) ?_
  simp (disch:=omega) [go_sem,he',dn]
theorem wq {x y:Int} (h:0<=x/\1<=y/\x < 4611686018427387904):IntKind.i64.wrap (IntKind.i64.wrap (x.tdiv y)+1)=x / y+1:=by
 have h1:=Int.ediv_nonneg h.1 (by omega:0<=y)
 have h2:=Int.ediv_le_self y h.1
 rw [Int.tdiv_eq_ediv_of_nonneg h.1,a8g (n:=x / y) (by omega),a8g (by omega)]
theorem b1g {sh:List Int} (h:a1a sh= .nil):∀ x∈sh,1<=x/\x<=256:=by
 have:=a8m.1 h
 simp only [c3v,Bool.and_eq_true,List.all_eq_true,a56,decide_eq_true_eq] at this
 intro x hx
 exact this.1.2 x hx
theorem d2v (hS:SentO G bk) (p q:Int) (a:Ds) (ha:a.shape.length < 2 ^ 62):ACalls pg G b6p [slI [p,q],.agg (eD a)] (b25 bk (b91 [p,q] a)):=by
 have h7:=hS.val 0 (by decide)
 have h3:=hS.val 5 (by decide)
 by_cases he:a1a a.shape= .nil
 ·have hr:b91 [p,q] a=(if a.shape.length=3 then
   (if 1<=p/\p<=16/\1<=q/\q<=16 then
    (if 0<=a.shape[0]! - p/\0<=a.shape[1]! - p then
     (⟨[(a.shape[0]! - p) / q+1,(a.shape[1]! - p) / q+1,a.shape[2]!],a.wide⟩,.nil) else bad 6) else bad 3) else bad 6):=by simp [b91,chk,he,Er.isNil]
  rw [hr]
  clear hr
  by_cases c1:a.shape.length=3
  ·obtain ⟨ash,aw⟩:=a
   obtain ⟨x,y,z,rfl⟩:=e9d c1
   have hd:a1a [x,y,z]= .nil:=he
   have hx:=b1g hd x (by simp)
   have hy:=b1g hd y (by simp)
   by_cases p1:p < 1
   ·rw [if_pos (by simp),if_neg (by omega)]
    refine a1b rfl ?_
    simp (disch:=omega) [go_sem,a1l]
    refine a0j (a04 hS.three [x,y,z] aw (by simp)) (a0o _) (by simp (disch:=omega) [go_sem]) ?_
    simp (disch:=omega) [go_sem,hd,Er.isNil]
    refine a0b ?_
    simp (disch:=omega) [go_sem]
    refine a0d (by decide) fun s2 hs2 hes2=> ?_
    simp (disch:=omega) [go_sem,hs2,p1]
    refine a0b ?_
    simp (disch:=omega) [go_sem,hs2,h3,bad,dn,a0t]
    refine a0d (by decide) fun s4 hs4 hes4=> ?_
    simp (disch:=omega) [go_sem,hs4,hs2,h3,bad,dn,a0t]
   by_cases p2:16 < p
   ·rw [if_pos (by simp),if_neg (by omega)]
    refine a1b rfl ?_
    simp (disch:=omega) [go_sem,a1l]
    refine a0j (a04 hS.three [x,y,z] aw (by simp)) (a0o _) (by simp (disch:=omega) [go_sem]) ?_
    simp (disch:=omega) [go_sem,hd,Er.isNil]
    refine a0b ?_
    simp (disch:=omega) [go_sem]
    refine a0d (by decide) fun s2 hs2 hes2=> ?_
    simp (disch:=omega) [go_sem,hs2,p1,p2]
    refine a0b ?_
    simp (disch:=omega) [go_sem,hs2,h3,bad,dn,a0t]
    refine a0d (by decide) fun s4 hs4 hes4=> ?_
    simp (disch:=omega) [go_sem,hs4,hs2,h3,bad,dn,a0t]
   by_cases p3:q < 1
   ·rw [if_pos (by simp),if_neg (by omega)]
    refine a1b rfl ?_
    simp (disch:=omega) [go_sem,a1l]
    refine a0j (a04 hS.three [x,y,z] aw (by simp)) (a0o _) (by simp (disch:=omega) [go_sem]) ?_
    simp (disch:=omega) [go_sem,hd,Er.isNil]
    refine a0b ?_
    simp (disch:=omega) [go_sem]
    refine a0d (by decide) fun s2 hs2 hes2=> ?_
    simp (disch:=omega) [go_sem,hs2,p1,p2,p3]
    refine a0b ?_
    simp (disch:=omega) [go_sem,hs2,h3,bad,dn,a0t]
    refine a0d (by decide) fun s4 hs4 hes4=> ?_
    simp (disch:=omega) [go_sem,hs4,hs2,h3,bad,dn,a0t]
   by_cases p4:16 < q
   ·rw [if_pos (by simp),if_neg (by omega)]
    refine a1b rfl ?_
    simp (disch:=omega) [go_sem,a1l]
    refine a0j (a04 hS.three [x,y,z] aw (by simp)) (a0o _) (by simp (disch:=omega) [go_sem]) ?_
    simp (disch:=omega) [go_sem,hd,Er.isNil]
    refine a0b ?_
    simp (disch:=omega) [go_sem]
    refine a0d (by decide) fun s2 hs2 hes2=> ?_
    simp (disch:=omega) [go_sem,hs2,p1,p2,p3,p4]
    refine a0b ?_
    simp (disch:=omega) [go_sem,hs2,h3,bad,dn,a0t]
    refine a0d (by decide) fun s4 hs4 hes4=> ?_
    simp (disch:=omega) [go_sem,hs4,hs2,h3,bad,dn,a0t]
   by_cases p5:x - p < 0
   ·rw [if_pos (by simp),if_pos (by omega),if_neg (by simp; omega)]
    refine a1b rfl ?_
    simp (disch:=omega) [go_sem,a1l]
    refine a0j (a04 hS.three [x,y,z] aw (by simp)) (a0o _) (by simp (disch:=omega) [go_sem]) ?_
    simp (disch:=omega) [go_sem,hd,Er.isNil]
    refine a0b ?_
    simp (disch:=omega) [go_sem]
    refine a0d (by decide) fun s2 hs2 hes2=> ?_
    simp (disch:=omega) [go_sem,hs2,p1,p2,p3,p4]
    refine a0b ?_
    simp (disch:=omega) [go_sem,hs2]
    refine a0d (by decide) fun s4 hs4 hes4=> ?_
    simp (disch:=omega) [go_sem,hs4,hs2,p5]
    refine a0b ?_
    simp (disch:=omega) [go_sem,hs4,hs2,h7,bad,dn,a0t]
    refine a0d (by decide) fun s6 hs6 hes6=> ?_
    simp (disch:=omega) [go_sem,hs6,hs4,hs2,h7,bad,dn,a0t]
   by_cases p6:y - p < 0
   ·rw [if_pos (by simp),if_pos (by omega),if_neg (by simp; omega)]
    refine a1b rfl ?_
    simp (disch:=omega) [go_sem,a1l]
    refine a0j (a04 hS.three [x,y,z] aw (by simp)) (a0o _) (by simp (disch:=omega) [go_sem]) ?_
    simp (disch:=omega) [go_sem,hd,Er.isNil]
    refine a0b ?_
    simp (disch:=omega) [go_sem]
    refine a0d (by decide) fun s2 hs2 hes2=> ?_
    simp (disch:=omega) [go_sem,hs2,p1,p2,p3,p4]
    refine a0b ?_
    simp (disch:=omega) [go_sem,hs2]
    refine a0d (by decide) fun s4 hs4 hes4=> ?_
    simp (disch:=omega) [go_sem,hs4,hs2,p5,p6]
    refine a0b ?_
    simp (disch:=omega) [go_sem,hs4,hs2,h7,bad,dn,a0t]
    refine a0d (by decide) fun s6 hs6 hes6=> ?_
    simp (disch:=omega) [go_sem,hs6,hs4,hs2,h7,bad,dn,a0t]
   rw [if_pos (by simp),if_pos (by omega),if_pos (by simp; omega)]
   refine ACalls.shown (res:= .tup [.agg [owI [(x - p) / q+1,(y - p) / q+1,z],lb aw],.lit .nilIface]) ?_ (by simp [go_sem,frz,a1k,owI]; rfl)
   refine a1b rfl ?_
   simp (disch:=omega) [go_sem,a1l]
   refine a0j (a04 hS.three [x,y,z] aw (by simp)) (a0o _) (by simp (disch:=omega) [go_sem]) ?_
   simp (disch:=omega) [go_sem,hd,Er.isNil]
   refine a0b ?_
   simp (disch:=omega) [go_sem]
   refine a0d (by decide) fun s2 hs2 hes2=> ?_
   simp (disch:=omega) [go_sem,hs2,p1,p2,p3,p4]
   refine a0b ?_
   simp (disch:=omega) [go_sem,hs2]
   refine a0d (by decide) fun s4 hs4 hes4=> ?_
   simp (disch:=omega) [go_sem,hs4,hs2,p5,p6]
   refine a0b ?_
   simp (disch:=omega) [go_sem,hs4,hs2,a6w]
   refine a0d (by decide) fun s6 hs6 hes6=> ?_
   simp (disch:=omega) [go_sem,hs6,hs4,hs2,a6w,wq (x:=x - p) (y:=q) (by omega),wq (x:=y - p) (y:=q) (by omega)]
  ·have c1':¬ (a.shape.length:Int)=3:=by omega
   rw [if_neg c1]
   refine a1b rfl ?_
   simp (disch:=omega) [go_sem,a1l]
   refine a0j (a04 hS.three a.shape a.wide ha) (a0o _) (by simp (disch:=omega) [go_sem]) ?_
   simp (disch:=omega) [go_sem,he,Er.isNil,c1']
   refine a0b ?_
   simp (disch:=omega) [go_sem,h7,bad,dn,a0t]
   refine a0d (by decide) fun s2 hs2 hes2=> ?_
   simp (disch:=omega) [go_sem,hs2,h7,bad,dn,a0t]
 ·have he':=a3c he
  have hr:b91 [p,q] a=(dn,a1a a.shape):=by simp only [b91,chk,he']; rfl
  rw [hr]
  refine a1b rfl ?_
  simp (disch:=omega) [go_sem,a1l]
  refine a0j (a04 hS.three a.shape a.wide ha) (a0o _) (by simp (disch:=omega) [go_sem]) ?_
  simp (disch:=omega) [go_sem,he',dn]
end
end Go.Ideal.Tryz
end
