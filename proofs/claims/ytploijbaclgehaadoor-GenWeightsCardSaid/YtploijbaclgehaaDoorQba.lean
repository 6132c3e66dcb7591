/- Part Qba of the proof: walks on a machine that is proved sound. -/
import Derived.Test.YtploijbaclgehaaDoorQax
set_option linter.unusedVariables false
set_option linter.unusedSimpArgs false
set_option maxRecDepth 10000
section
namespace Go.Ideal.Tryd
def a8j (i e:Nat):List Int:=(List.replicate e (0:Int)).set 0 (i:Int)
def wN (i e:Nat):Nd:=⟨3,[],[(i:Int),0,(e:Int)],[],false,[]⟩
def cN (i e:Nat):Nd:=⟨2,[],[],[(e:Int)],false,a8j i e⟩
def wS:Nat->Nat->List Nd
 | 0,_=>[]
 | n+1,e=>wS n e++[wN n e,cN n e]
theorem b1n {e:Nat}:∀ {n:Nat},(wS n e).length=2*n
 | 0=>rfl
 | n+1=>by rw [wS,List.length_append,b1n]; simp; omega
theorem b1m {e:Nat}:∀ {n i:Nat},i < n->(wS n e)[2*i]! =wN i e/\(wS n e)[2*i+1]! =cN i e
 | 0,i,h=>by omega
 | n+1,i,h=>by
  have hl:(wS n e).length=2*n:=b1n
  have hl2:(wS (n+1) e).length=2*(n+1):=b1n
  rw [a3q (by omega),a3q (by omega)]
  simp only [wS]
  by_cases c:i < n
  ·have:=b1m (e:=e) c
   rw [List.getElem_append_left (by omega),List.getElem_append_left (by omega),<-a3q (by omega),<-a3q (by omega)]
   exact this
  ·obtain rfl:i=n:=by omega
   rw [List.getElem_append_right (by omega),List.getElem_append_right (by omega)]
   simp [hl]
theorem d4k {e:Nat}:∀ {n:Nat} {x:Nd},x∈wS n e->∃ i,i < n/\(x=wN i e\/x=cN i e)
 | 0,x,h=>by cases h
 | n+1,x,h=>by
  rw [wS,List.mem_append] at h
  rcases h with h | h
  ·obtain ⟨i,hi,hx⟩:=d4k h
   exact ⟨i,by omega,hx⟩
  ·simp only [List.mem_cons,List.not_mem_nil,or_false] at h
   exact ⟨n,by omega,h⟩
def wG (n e:Nat):Gr:=⟨wS n e,2*(n:Int) - 1⟩
theorem g4p {n e:Nat} (he:e < 2 ^ 20):∀ x∈wS n e,x.sh/\x.ins=[]/\x.op≠1/\(x.op=3->0 < x.args.length):=by
 intro x hx
 obtain ⟨i,hi,rfl | rfl⟩:=d4k hx
 ·exact ⟨⟨by simp [wN],by simp [wN],by simp [wN],by simp [wN]⟩,rfl,by simp [wN],by simp [wN]⟩
 ·exact ⟨⟨by simp [cN],by simp [cN],by simp [cN],by simp [cN,a8j]; omega⟩,rfl,by simp [cN],by simp [cN]⟩
theorem b92 {n:Int}:∀ {keys:List Int} {vals:List Ds},n ∉ keys->c4g keys vals n=none
 | [],_,_=>by simp [c4g]
 | k::ks,[],_=>by simp [c4g]
 | k::ks,v::vs,h=>by
  simp only [List.mem_cons,not_or] at h
  simp only [c4g]
  rw [if_neg (fun hc=>h.1 hc.symm),b92 h.2]
theorem c4j {n:Int} {x:Ds}:∀ {keys:List Int} {vals:List Ds},n ∉ keys->keys.length=vals.length->b5y keys vals n x=(keys++[n],vals++[x])
 | [],[],_,_=>by simp [b5y]
 | [],_::_,_,h=>by simp at h
 | _::_,[],_,h=>by simp at h
 | k::ks,v::vs,h,hl=>by
  simp only [List.mem_cons,not_or] at h
  simp only [b5y]
  rw [if_neg (fun hc=>h.1 hc.symm),c4j h.2 (by simpa using hl)]
  rfl
theorem b0v {w:Bool}:∀ {l:List Int} {k:Nat},(∀ x∈l,b7q x w=true)->a37 w l k=none
 | [],_,_=>rfl
 | x::l,k,h=>by
  rw [a37,if_pos (h x (by simp)),b0v fun y hy=>h y (by simp [hy])]
theorem c6s {i e:Nat} (hi:i < 100):∀ x∈a8j i e,b7q x false=true:=by
 intro x hx
 rcases List.mem_or_eq_of_mem_set hx with hx | rfl
 ·obtain ⟨_,rfl⟩:=List.mem_replicate.1 hx
  simp [b7q]
 ·simp only [b7q,Bool.false_eq_true,if_false,decide_eq_true_eq]
  omega
theorem b0s {e:Nat} (he:1<=e/\e<=256):a11 [(e:Int)]=e:=by
 have:b8w [(e:Int)]=true:=a4x.1 (c7p (by omega))
 simp [a11,this,a6a]
theorem d03 {i e:Nat} (hi:i < 100) (he:1<=e/\e<=256):a9j [(e:Int)] false (a8j i e)= .nil:=by
 have hs:b8w [(e:Int)]=true:=a4x.1 (c7p (by omega))
 have hl:((a8j i e).length:Int)=a11 [(e:Int)]:=by rw [b0s he]; simp [a8j]
 rw [a9j,if_pos hs,if_pos hl,b0v (c6s hi)]
 rfl
def wL (N m e:Nat):Lk:={ lk0 (a32 N) N with ws:=List.replicate m ⟨[(e:Int)],false⟩,keys:=a32 m,vals:=List.replicate m ⟨[(e:Int)],false⟩ }
theorem c42 {m:Nat}:(m:Int) ∉ a32 m:=by
 simp only [a32,List.mem_map,List.mem_range,not_exists,not_and]
 intro x hx h
 omega
theorem d6n {N k e:Nat} {ds:List Ds} (hk:k < 8) (he:1<=e/\e<=256):a2q { wL N k e with descs:=ds } (wN k e)=((⟨[(e:Int)],false⟩,.nil),{ wL N (k+1) e with descs:=ds }):=by
 have hf:a3m [(k:Int),0,(e:Int)] 1=(⟨[(e:Int)],false⟩,.nil):=by
  simp [a3m,chk,c7p (show (1:Int)<=e/\(e:Int)<=256 by omega),Er.isNil]
 have hw:a2q { wL N k e with descs:=ds } (wN k e)=wtR { wL N k e with descs:=ds } [(k:Int),0,(e:Int)]:=by
  simp [a2q,wN,a1d]
 have ha:([(k:Int),0,(e:Int)]:List Int)[0]! =k:=rfl
 rw [hw,wtR,if_neg (by simp),ha,if_neg (by omega),hf]
 have hg:c4g (a32 k) (List.replicate k (⟨[(e:Int)],false⟩:Ds)) (k:Int)=none:=b92 c42
 have hs:b5y (a32 k) (List.replicate k (⟨[(e:Int)],false⟩:Ds)) (k:Int) ⟨[(e:Int)],false⟩=(a32 k++[(k:Int)],List.replicate k (⟨[(e:Int)],false⟩:Ds)++[⟨[(e:Int)],false⟩]):=c4j c42 (by rw [a3u]; simp)
 have hp:(b4u (List.replicate k (⟨[(e:Int)],false⟩:Ds)) k).set k ⟨[(e:Int)],false⟩=List.replicate (k+1) ⟨[(e:Int)],false⟩:=by
  unfold b4u
  rw [List.length_replicate,show k+1 - k=1 by omega,List.set_append_right _ _ (by simp),List.length_replicate,Nat.sub_self]
  exact List.replicate_succ'.symm
 simp only [wL,Er.isNil,if_true,hg,hs,Int.toNat_natCast,hp,Option.all_none]
 rw [<-b5j,<-List.replicate_succ']
theorem d6m {N m k e:Nat} {ds:List Ds} (hk:k < 8) (he:1<=e/\e<=256):a2q { wL N m e with descs:=ds } (cN k e)=((⟨[(e:Int)],false⟩,.nil),{ wL N m e with descs:=ds }):=by
 have:=d03 (i:=k) (e:=e) (by omega) he
 simp [a2q,cN,a1d,this,Er.isNil]
theorem c98 {n i:Nat} (hi:i < 2*n):(∃ k,i=2*k/\k < n)\/(∃ k,i=2*k+1/\k < n):=by
 rcases Nat.mod_two_eq_zero_or_one i with h | h
 ·exact .inl ⟨i / 2,by omega,by omega⟩
 ·exact .inr ⟨i / 2,by omega,by omega⟩
theorem c08 {n e i:Nat} (hi:i < 2*n):(wG n e).nodes[i]!.ins=[]/\(wG n e).nodes[i]!.op≠1:=by
 rcases c98 hi with ⟨k,rfl,hk⟩ | ⟨k,rfl,hk⟩
 ·have:=(b1m (e:=e) hk).1
  simp only [wG,this]
  exact ⟨rfl,by simp [wN]⟩
 ·have:=(b1m (e:=e) hk).2
  simp only [wG,this]
  exact ⟨rfl,by simp [cN]⟩
def wSn (n e:Nat):Sn:=⟨a32 (2*n),(List.range (2*n)).map (fun _=>⟨[(e:Int)],false⟩),dn,List.replicate n ⟨[(e:Int)],false⟩⟩
theorem d7v {n e:Nat} (hn:1<=n/\n<=8) (he:1<=e/\e<=256):ofR (wG n e)=(wSn n e,.nil):=by
 have hlen:(wG n e).nodes.length=2*n:=b1n
 refine c8y (g:=wG n e) (N:=2*n) (D:=fun _=>⟨[(e:Int)],false⟩) (L:=fun i=>wL (2*n) ((i+1) / 2) e) hlen (by omega) (by simp only [wG]; omega) (fun nd hnd=> ?_) (fun i hi x hx=> ?_) rfl (fun i hi=> ?_) |>.trans ?_
 ·rw [(g4p (n:=n) (e:=e) (by omega) nd hnd).2.1]; simp
 ·rw [(c08 (e:=e) hi).1] at hx; cases hx
 ·rcases c98 hi with ⟨k,rfl,hk⟩ | ⟨k,rfl,hk⟩
  ·have h1:=(b1m (e:=e) hk).1
   simp only [wG,h1]
   rw [show (2*k+1) / 2=k by omega,show (2*k+1+1) / 2=k+1 by omega]
   exact d6n (by omega) he
  ·have h1:=(b1m (e:=e) hk).2
   simp only [wG,h1]
   rw [show (2*k+1+1) / 2=k+1 by omega,show (2*k+1+1+1) / 2=k+1 by omega]
   exact d6m (by omega) he
 ·rw [show (2*n+1) / 2=n by omega]
  rfl
def wSp (n:Nat) (o:Int) (i:Nat):Sp:=⟨i,if i+1=2*n then 2*n else i,0,o⟩
theorem d7x {n e:Nat} (hn:1<=n/\n<=8) {o:Int} (ho:upI (a18 [(e:Int)] false)=o):a4l (wG n e) (wSn n e)=((List.range (2*n)).map (wSp n o),⟨-1,-1,0,4⟩):=by
 have hlen:(wG n e).nodes.length=2*n:=b1n
 unfold a4l
 simp only [hlen]
 have hat:atI (wSn n e).ord (2*n)=a32 (2*n):=c3v
 rw [hat]
 refine (c4x (N:=2*n) (by rw [a7r,hlen]) (F:=wSp n o) (I:=fun _=>⟨-1,-1,0,4⟩) (fun i hi=> ?_) (fun i hi=> ?_)).trans rfl
 ·have hu:=b5k (g:=wG n e) (t:=i) (by rw [hlen]; exact hi)
  have hus:(a7q (wG n e))[i]! =[]:=by
   rw [List.eq_nil_iff_forall_not_mem]
   intro x hx
   rw [hu,c9t] at hx
   obtain ⟨m,h1,h2,h3⟩:=hx
   simp only [List.length_map,hlen] at h1
   rw [a3q (by simpa [hlen] using h1),List.getElem_map] at h3
   have:=(c08 (n:=n) (e:=e) h1).1
   rw [a3q (by rw [hlen]; exact h1)] at this
   rw [this] at h3
   cases h3
  rw [hus]
  unfold d4f
  rw [upTo_get! hi]
  have hds:(wSn n e).descs[i]! =⟨[(e:Int)],false⟩:=by
   simp only [wSn]
   rw [a3q (by simpa using hi)]; simp
  rw [hds]
  simp only
  rw [ho]
  unfold wSp
  congr 1
  by_cases h1:i+1=2*n
  ·rw [if_pos (show (i:Int)=(wG n e).out by simp only [wG]; omega),if_pos h1,hlen]
   simp
  ·rw [if_neg (show ¬ (i:Int)=(wG n e).out by simp only [wG]; omega),if_neg h1]
   rfl
 ·rw [if_neg (c08 (n:=n) (e:=e) hi).2]
theorem d7w {n:Nat} {o:Int} (hn:1<=n/\n<=8) (ho:4<=o/\o<=100000/\o % 4=0):a5n ((List.range (2*n+1)).map fun j=>if j=0 then ⟨-1,-1,0,4⟩ else wSp n o (j - 1))=((List.range (2*n+1)).map (fun _=>0),o):=by
 refine c0s (S:=fun j=>if j=0 then ⟨-1,-1,0,4⟩ else wSp n o (j - 1)) (f:=fun _=>0) (fun j hj=> ?_) (fun j hj l hl hc=> ?_) (fun j hj m hm0 hm hm4=>by omega) (fun j hj=> ?_) (.inl ⟨1,by omega,?_⟩)
 ·split
  ·simp
  ·simp only [wSp]; omega
 ·obtain ⟨c1,c2,c3,c4⟩:=hc
  simp only [show ¬ j=0 by omega,if_false,wSp] at c2
  split at c2
  ·simp only at c2; omega
  ·rename_i hl0
   simp only [show ¬ l - 1+1=2*n by omega,if_false] at c2
   split at c2<;>omega
 ·split
  ·simp; omega
  ·simp only [wSp]; omega
 ·simp [wSp]
theorem c4r {g:Gr} {inn:Sp} {offs:List Int}:∀ {is:List Int} {out:List Sp} {k:Nat} {b:Bool},(∀ i∈is,g.nodes[i.toNat]!.op≠1)->(a7l g inn offs out k b is).2=b
 | [],_,_,_,_=>rfl
 | i::is,out,k,b,h=>by
  rw [a7l,if_neg (h i (by simp))]
  exact c4r fun x hx=>h x (by simp [hx])
theorem d4l {n e:Nat} (hn:1<=n/\n<=8) (he:1<=e/\e<=256) {o:Int} (hoo:upI (a18 [(e:Int)] false)=o) (ho:4<=o/\o<=30000/\o % 4=0):∃ l:List Sp,a8f (wG n e)=((l,o),.nil)/\l.length=2*n+1:=by
 have hor:=d7v (n:=n) (e:=e) hn he
 have hsp:=d7x (n:=n) (e:=e) hn hoo
 have hpl:=d7w (n:=n) (o:=o) hn (by omega)
 have hall1:∀ i∈a32 (2*n),(wG n e).nodes[i.toNat]!.op≠1:=by
  intro i hi
  simp only [a32,List.mem_map,List.mem_range] at hi
  obtain ⟨j,hj,rfl⟩:=hi
  rw [Int.toNat_natCast]
  exact (c08 hj).2
 have hsel:b1o (wG n e) ((List.range (2*n)).map (wSp n o)) (a32 (2*n))=(List.range (2*n)).map (wSp n o):=by
  have:=b8e (g:=wG n e) (out:=(List.range (2*n)).map (wSp n o)) (F:=wSp n o) (L:=List.range (2*n)) (fun i hi=>⟨(c08 (List.mem_range.1 hi)).2,by rw [a3q (by simpa using List.mem_range.1 hi)]; simp⟩)
  exact this
 have hcons:(⟨-1,-1,0,4⟩:Sp)::(List.range (2*n)).map (wSp n o)=(List.range (2*n+1)).map fun j=>if j=0 then ⟨-1,-1,0,4⟩ else wSp n o (j - 1):=by
  rw [List.range_succ_eq_map]
  simp
 refine ⟨e0k (wG n e) ((List.range (2*n)).map (wSp n o)) ⟨-1,-1,0,4⟩ ((List.range (2*n+1)).map (fun _=>0)) (a32 (2*n)),?_,?_⟩
 ·unfold a8f c4k
  rw [hor]
  simp only [Er.isNil,if_true]
  rw [hsp]
  simp only
  have e1:(wSn n e).ord=a32 (2*n):=rfl
  rw [e1,hsel,hcons,hpl]
  simp only
  rw [if_neg (by omega)]
 ·unfold e0k
  rw [c4r hall1]
  simp [b4y]
theorem c04 {E:Int} (h:1<=E/\E<=1024):a6q E 1=[(0,E)]:=by
 obtain ⟨k,hk⟩:∃ k:Nat,E.toNat=k+1:=⟨E.toNat - 1,by omega⟩
 rw [a6q,if_neg (by omega),hk,a4n,if_pos (by omega),if_neg (show ¬ 1024 / 1 < E - 0 by omega)]
 cases k with
 | zero=>rfl
 | succ k=>rw [a4n,if_neg (by omega)]
theorem g0r {n e i:Nat} (h:i < 2*n):(wSn n e).descs[i]! =⟨[(e:Int)],false⟩:=by
 unfold wSn
 rw [a3q (by simpa using h)]
 simp
theorem c3n {n e i:Nat} (he:1<=e/\e<=256) (h:i < 2*n):a4g (wG n e) (wSn n e) (i:Int)=((e:Int),1):=by
 unfold a4g
 rw [Int.toNat_natCast,g0r h]
 simp only [b0s he]
 rcases c98 h with ⟨k,rfl,hk⟩ | ⟨k,rfl,hk⟩
 ·have h1:(wG n e).nodes[2*k]! =wN k e:=(b1m hk).1
  rw [h1]; rfl
 ·have h1:(wG n e).nodes[2*k+1]! =cN k e:=(b1m hk).2
  rw [h1]; rfl
structure CodeW (e:Nat) (p:Pl) (k:Nat):Prop where
 len:p.code.length=2*k
 at_:∀ i,i < k->p.code[2*i]! =⟨3,((2*i+1:Nat):Int),[],[(i:Int)],0,e⟩/\p.code[2*i+1]! =⟨2,((2*i+2:Nat):Int),[],[(i:Int)],0,e⟩
 clen:p.consts.length=k
 cat:∀ i,i < k->p.consts[i]! =⟨[(e:Int)],false,a8j i e⟩
theorem c2i {α:Type} [Inhabited α] {l:List α} {x:α} {r:List α} {i:Nat} (h:i < l.length):(l++r)[i]! =l[i]! :=by
 rw [a3q (by simp; omega),a3q h,List.getElem_append_left h]
theorem c2j {α:Type} [Inhabited α] {l r:List α} {i:Nat} (h:i < r.length):(l++r)[l.length+i]! =r[i]! :=by
 rw [a3q (by simp; omega),a3q h,List.getElem_append_right (by omega)]
 congr 1
 omega
theorem d7u {n e:Nat} {sp:List Sp} (he:1<=e/\e<=256) (hn:n<=8):∀ (d k:Nat),k+d=n->∀ (p:Pl) (view:List Int),p.views.length=2*k+1->view.length=2*n->(∀ i:Nat,i < 2*k->view[i]! =((i+1:Nat):Int))->CodeW e p k->
  ∃ p' view',a7b (wG n e) (wSn n e) sp p view ((a32 (2*n)).drop (2*k))=some (p',view')/\p'.views.length=2*n+1/\p'.weights=p.weights/\(∀ i:Nat,i < 2*n->view'[i]! =((i+1:Nat):Int))/\CodeW e p' n:=by
 intro d
 induction d with
 | zero=>
  intro k hk p view h1 h2 h3 h4
  obtain rfl:k=n:=by omega
  refine ⟨p,view,?_,h1,rfl,h3,h4⟩
  rw [List.drop_of_length_le (by rw [a3u]; omega),a7b]
 | succ d ih=>
  intro k hk p view h1 h2 h3 h4
  have hlt:2*k < (a32 (2*n)).length:=by rw [a3u]; omega
  have hlt2:2*k+1 < (a32 (2*n)).length:=by rw [a3u]; omega
  have hn0:(wG n e).nodes[(((2*k:Nat)):Int).toNat]! =wN k e:=by
   rw [Int.toNat_natCast]; exact (b1m (by omega)).1
  have hn1:(wG n e).nodes[(((2*k+1:Nat)):Int).toNat]! =cN k e:=by
   rw [Int.toNat_natCast]; exact (b1m (by omega)).2
  rw [List.drop_eq_getElem_cons hlt,a44,a7b,hn0,if_neg (by simp [wN]),c3n he (by omega),c04 (by omega)]
  have hi0:∀ (cs:List Tn) (v:List Int),a39 cs (wN k e) v=(⟨3,0,[],[(k:Int)],0,0⟩,cs):=by
   intro cs v
   simp [a39,wN,a1d]
  have hi1:∀ (cs:List Tn) (v:List Int),a39 cs (cN k e) v=(⟨2,0,[],[(cs.length:Int)],0,0⟩,cs++[⟨[(e:Int)],false,a8j k e⟩]):=by
   intro cs v
   simp [a39,cN,a1d]
  have hcl:=h4.len
  rw [hi0,a9f (by simp; omega)]
  simp only
  rw [List.drop_eq_getElem_cons hlt2,a44,a7b,hn1,if_neg (by simp [cN]),c3n he (by omega),c04 (by omega)]
  simp only [hi1]
  rw [a9f (by simp; omega)]
  simp only
  have hd2:(a32 (2*n)).drop (2*k+1+1)=(a32 (2*n)).drop (2*(k+1)):=by congr 1
  rw [hd2]
  refine ih (k+1) (by omega) _ _ (by simp [h1]; omega) (by simp [h2]) (fun i hi=> ?_) ?_
  ·simp only [Int.toNat_natCast,List.length_append,List.length_singleton,h1]
   by_cases c1:i=2*k+1
   ·subst c1
    rw [a3q (by simp; omega),List.getElem_set_self]
   ·have e1:∀ {l:List Int} {j:Nat} {v:Int},j≠i->(l.set j v)[i]! =l[i]! :=by
     intro l j v hj
     simp only [getElem!_def]
     rw [List.getElem?_set_ne hj]
    rw [e1 (by omega)]
    by_cases c2:i=2*k
    ·subst c2
     rw [a3q (by simp; omega),List.getElem_set_self]
    ·rw [e1 (by omega)]
     exact h3 i (by omega)
  ·have hc2:=h4.clen
   refine ⟨by simp [hcl]; omega,fun i hi=> ?_,by simp [hc2],fun i hi=> ?_⟩
   ·simp only [h1,hc2,List.length_append,List.length_singleton,List.map_cons,List.map_nil,List.append_assoc]
    by_cases c:i < k
    ·have:=h4.at_ i c
     have g1:∀ r:List In,(p.code++r)[2*i]! =p.code[2*i]! :=fun r=>c2i (x:=b26) (by omega)
     have g2:∀ r:List In,(p.code++r)[2*i+1]! =p.code[2*i+1]! :=fun r=>c2i (x:=b26) (by omega)
     rw [g1,g2]
     exact this
    ·obtain rfl:i=k:=by omega
     have g1:∀ r:List In,0 < r.length->(p.code++r)[2*i]! =r[0]! :=fun r hr=>by
      have:=c2j (l:=p.code) (i:=0) hr
      rw [hcl] at this
      exact this
     have g2:∀ r:List In,1 < r.length->(p.code++r)[2*i+1]! =r[1]! :=fun r hr=>by
      have:=c2j (l:=p.code) (i:=1) hr
      rw [hcl] at this
      exact this
     rw [g1 _ (by simp),g2 _ (by simp)]
     exact ⟨rfl,rfl⟩
   ·by_cases c:i < k
    ·rw [c2i (x:=⟨[],false,[]⟩) (by omega)]
     exact h4.cat i c
    ·obtain rfl:i=k:=by omega
     have:=c2j (l:=p.consts) (r:=[(⟨[(e:Int)],false,a8j i e⟩:Tn)]) (i:=0) (by simp)
     rw [hc2] at this
     exact this
theorem g0s {n e:Nat} (hn:1<=n/\n<=8) (he:1<=e/\e<=256):∃ p,d0e (wG n e)=(p,.nil)/\(∃ q:Pl,p.code=q.code++[b26]/\p.consts=q.consts/\CodeW e q n)/\p.views.length=2*n+1/\p.output=2*(n:Int)/\p.weights.length=n:=by
 have hb:a18 [(e:Int)] false=e:=by simp [a18,b0s he]
 have ho:upI (a18 [(e:Int)] false)=((e:Int)+3) / 4*4:=by
  rw [hb]
  unfold upI
  rw [if_neg (by omega)]
 obtain ⟨l,hl,hll⟩:=d4l (n:=n) hn he ho (by omega)
 have hof:=d7v (n:=n) (e:=e) hn he
 have hdear:b24 (wG n e) (wSn n e) (wSn n e).ord=none:=b7k (fun i hi=>by
  simp only [wSn,a32,List.mem_map,List.mem_range] at hi
  obtain ⟨j,hj,rfl⟩:=hi
  rw [c3n he hj]; simp only; omega)
 obtain ⟨p',view',h1,h2,h3,h4,h5⟩:=d7u (n:=n) (e:=e) (sp:=l) he hn.2 n 0 (by omega) ⟨((e:Int)+3) / 4*4,[⟨(a92 l (wG n e).nodes 0).off,[],false⟩],[],List.replicate n ⟨[(e:Int)],false⟩,[],0,0⟩ (List.replicate (2*n) 0) rfl (by simp) (fun i hi=>by omega) ⟨rfl,fun i hi=>by omega,rfl,fun i hi=>by omega⟩
 have hlen:(wG n e).nodes.length=2*n:=b1n
 have hgo:a7b (wG n e) (wSn n e) l ⟨((e:Int)+3) / 4*4,[⟨(a92 l (wG n e).nodes 0).off,(wSn n e).hin.shape,(wSn n e).hin.wide⟩],[],(wSn n e).ws,[],0,0⟩ (List.replicate (2*n) 0) (wSn n e).ord=some (p',view'):=h1
 have hc:=h5.len
 have hv:view'[((wG n e).out).toNat]! =2*(n:Int):=by
  have e1:(wG n e).out.toNat=2*n - 1:=by simp only [wG]; omega
  rw [e1,h4 _ (by omega)]
  omega
 refine ⟨{ p' with code:=p'.code++[b26],output:=2*(n:Int) },?_,⟨p',rfl,rfl,h5⟩,h2,rfl,by simp only; rw [h3]; simp⟩
 unfold d0e d16
 rw [hof,hl]
 simp only [Er.isNil,if_true]
 rw [hdear]
 simp only [hlen]
 rw [hgo,b9z]
 simp only
 rw [if_neg (by omega),hv]
section
variable {G:GG} {bk:Nat->Nat×Nat} {Q:Exit->St->Prop} {st:St}
theorem d7t {n e:Nat}:wS (n+1) e=wS n e++[wN n e,cN n e]:=rfl
theorem d66 {e:Nat}:a61 e [li 0]=(List.replicate e (0:Int)).map li:=by
 induction e with
 | zero=>rfl
 | succ e ih=>rw [List.replicate_succ,List.map_cons,<-ih]; simp [a61,List.replicate_succ]
theorem e7s {z:List AV}:a61 2 z=z++z:=by simp [a61,List.replicate_succ]
theorem f6z {n e:Nat} (hn:n<=8) (he:1<=e/\e<=200) (h:st.s 0=li n/\st.s 1=li e/\st.s 4=lb false/\st.s 5=lb true/\st.s 6= .var [.own 6 0 [],li 0]/\st.s 7=li 0)
  (hex:∀ s:St,(s.s 0=li n/\s.s 1=li e/\s.s 4=lb false/\s.s 5=lb true/\s.s 6= .var [.own 6 (2*n) (fm b7n (wS n e)),li 0])->Q (.exit 0) s):AW pg G 176 (.loop a1q) Q st:=by
 refine a0x Nat (fun j st=>j<=n/\st.s 0=li n/\st.s 1=li e/\st.s 4=lb false/\st.s 5=lb true/\st.s 6= .var [.own 6 (2*j) (fm b7n (wS j e)),li 0]/\st.s 7=li j) (fun j=>n - j) 0 ⟨by omega,by simpa [wS,a24] using h⟩ ?_
 clear h
 rintro j st K1 ⟨hj,h⟩ hK
 have hlen:(wS j e).length=2*j:=b1n
 have hvl:(fm b7n (wS j e)).length=2*j*6:=by rw [c35,hlen]
 have e2:fm b7n (wS (j+1) e)=fm b7n (wS j e)++[li 3,.own 1 0 [],owI [(j:Int),0,(e:Int)],.own 1 0 [],lb false,.own 1 0 [],li 2,.own 1 0 [],.own 1 0 [],owI [(e:Int)],lb false,owI (a8j j e)]:=by
  rw [d7t,a5k]
  rfl
 by_cases c:j < n
 ·generalize hv:fm b7n (wS j e)=v at *
  have ht:v.take (2*j*6)=v:=by rw [<-hvl]; exact List.take_length
  obtain ⟨m,hm,hm2⟩:∃ m:Nat,2*(j:Int)+1=(m:Int)/\m=2*j+1:=⟨2*j+1,by omega,rfl⟩
  simp (disch:=omega) [go_sem,a1q,h,c,ht]
  refine b0m [(6,st.ep 6)] (by simp) (by simp (disch:=omega) [go_sem,h]) ?_
  simp (disch:=omega) [go_sem,h,ht,d66,e7s,a0h]
  refine a0c (by decide) fun s2 hs2 hep=> ?_
  have hidx:m*6+3+2=v.length+11:=by omega
  have hget:∀ cs:List AV,(v++cs)[m*6+3+2]? =cs[11]? :=fun cs=>by
   rw [hidx,List.getElem?_append_right (by omega)]
   congr 1
   omega
  have hset:∀ (cs:List AV) (x:AV),(v++cs).set (m*6+3+2) x=v++cs.set 11 x:=fun cs x=>by
   rw [hidx,List.set_append_right _ _ (by omega)]
   congr 2
   omega
  have e3:2*(j+1)=2*j+2:=by omega
  simp (disch:=omega) [go_sem,hs2,hep,h,hm,hget,hset]
  refine hK (j+1) _ ⟨by omega,?_⟩ (by omega)
  rw [e2,e3]
  simp (disch:=omega) [go_sem,hs2,hep,h,hm,hget,hset,a8j]
  rw [a7p (by simp; omega)]
 ·obtain rfl:j=n:=by omega
  simp (disch:=omega) [go_sem,a1q,h]
  exact hex _ (by simp (disch:=omega) [go_sem,h])
@[go_sem] theorem g5b {xs:List Tn} {i:Nat} (h:i < xs.length):(fm eT xs)[i*3+2]? =some (slI xs[i].data):=b0y (f:=eT) (k:=3) (j:=2) (fun _=>rfl) h (by omega)
theorem f60 {n e:Nat} {p q:Pl} (hn:n<=8) (he:1<=e/\e<=200) (hc:p.code=q.code++[b26]) (hcs:p.consts=q.consts) (hok:CodeW e q n) (h:st.s 0=li n/\st.s 1=li e/\st.s 4=lb false/\st.s 5=lb true/\st.s 8= .var (eP p)/\st.s 10=li 0)
  (hex:∀ s:St,s.s 0=li n/\s.s 1=li e/\s.s 4=lb false/\s.s 5=lb true/\s.s 8= .var (eP p)->Q (.exit 2) s):AW pg G 176 (.loop a1r) Q st:=by
 have hlc:=hok.len
 have hcl:=hok.clen
 refine a0x Nat (fun j st=>j<=n/\st.s 0=li n/\st.s 1=li e/\st.s 4=lb false/\st.s 5=lb true/\st.s 8= .var (eP p)/\st.s 10=li j) (fun j=>n - j) 0 ⟨by omega,by simpa using h⟩ ?_
 clear h
 rintro j st K1 ⟨hj,h⟩ hK
 simp only [eP] at h
 by_cases c:j < n
 ·have c0:2*j < p.code.length:=by rw [hc]; simp; omega
  have c1:2*j+1 < p.code.length:=by rw [hc]; simp; omega
  have c2:j < p.consts.length:=by rw [hcs]; omega
  obtain ⟨x0,x1⟩:=hok.at_ j c
  have e0:p.code[2*j]=⟨3,((2*j+1:Nat):Int),[],[(j:Int)],0,e⟩:=by
   rw [<-x0,a3q (by omega)]
   simp only [hc]
   rw [List.getElem_append_left (by omega)]
  have e1:p.code[2*j+1]=⟨2,((2*j+2:Nat):Int),[],[(j:Int)],0,e⟩:=by
   rw [<-x1,a3q (by omega)]
   simp only [hc]
   rw [List.getElem_append_left (by omega)]
  have e2:p.consts[j].data=a8j j e:=by
   have:=hok.cat j c
   rw [a3q (by omega)] at this
   simp only [hcs,this]
  have hdl:(a8j j e).length=e:=by simp [a8j]
  have hd0:0 < (a8j j e).length:=by omega
  have hd1:(a8j j e)[0]=(j:Int):=by simp [a8j]
  generalize a8j j e=dat at *
  have spec:=b61 (G:=G) (a:=[(j:Int)]) (b:=[(j:Int)]) (by simp)
  obtain ⟨m0,hm0,hm0'⟩:∃ m:Nat,2*(j:Int)=(m:Int)/\m=2*j:=⟨2*j,by omega,rfl⟩
  obtain ⟨m1,hm1,hm1'⟩:∃ m:Nat,(m0:Int)+1=(m:Int)/\m=2*j+1:=⟨2*j+1,by omega,rfl⟩
  have d0:m0 < p.code.length:=by omega
  have d1:m1 < p.code.length:=by omega
  have f0:p.code[m0]=⟨3,((2*j+1:Nat):Int),[],[(j:Int)],0,e⟩:=by
   rw [<-e0]; congr 1
  have f1:p.code[m1]=⟨2,((2*j+2:Nat):Int),[],[(j:Int)],0,e⟩:=by
   rw [<-e1]; congr 1
  clear e0 e1 x0 x1
  simp (disch:=omega) [go_sem,a1r,h,c,hm0,hm1,d0,d1,f0,f1]
  refine a0i spec rfl rfl ?_
  simp (disch:=omega) [go_sem,h,c,hm0,hm1,d0,d1,f0,f1]
  refine a0i spec rfl rfl ?_
  simp (disch:=omega) [go_sem,h,c,hm0,hm1,d0,d1,f0,f1,c2,e2,hdl,hd0,hd1]
  exact hK (j+1) _ ⟨by omega,by simp (disch:=omega) [go_sem,h,eP]⟩ (by omega)
 ·have:j=n:=by omega
  subst this
  simp (disch:=omega) [go_sem,a1r,h]
  exact hex _ (by simp (disch:=omega) [go_sem,h,eP])
theorem b34 (hS:SentG G bk) (hA:Around G bk) (a0 a1:Int):ACalls pg G a7s [li a0,li a1] (lb true):=by
 have r1:=b3l (n:=a0) (m:=8) (by decide)
 have r2:=b3l (n:=a1) (m:=200) (by decide)
 have k1:=b3m (G:=G) a0 8 (by decide) (by decide)
 have k2:=b3m (G:=G) a1 200 (by decide) (by decide)
 obtain ⟨n,hn⟩:∃ n:Nat,c22 a0 8+1=n:=⟨(c22 a0 8+1).toNat,by omega⟩
 obtain ⟨e,he⟩:∃ n:Nat,c22 a1 200+1=n:=⟨(c22 a1 200+1).toNat,by omega⟩
 generalize c22 a0 8=u at *
 generalize c22 a1 200=v at *
 obtain ⟨p,hp,⟨q,hc,hcs,hok⟩,hv,hout,hws⟩:=g0s (n:=n) (e:=e) (by omega) (by omega)
 have hof:=d7v (n:=n) (e:=e) (by omega) (by omega)
 have hb:a18 [(e:Int)] false=e:=by simp [a18,b0s (e:=e) (by omega)]
 obtain ⟨l,hl,hll⟩:=d4l (n:=n) (e:=e) (by omega) (by omega) (o:=upI (a18 [(e:Int)] false)) rfl (by
  rw [hb]
  unfold upI
  rw [if_neg (by omega)]
  omega)
 have hsn:=g4p (n:=n) (e:=e) (by omega)
 have hgl:(wG n e).nodes.length=2*n:=b1n
 have htot:tot ((wG n e).nodes.map (·.ins))<=0*((wG n e).nodes.map (·.ins)).length:=d4j (fun r hr=>by
  obtain ⟨x,hx,rfl⟩:=List.mem_map.1 hr
  rw [(hsn x hx).2.1]; simp)
 have spec:=d5x hS hA (wG n e) (fun x hx=>(hsn x hx).1) (by omega) (by omega) (fun _ x hx ho=>(hsn x hx).2.2.2 ho) (fun _ d hd=>by
  rw [hof] at hd
  simp only [wSn,List.mem_replicate] at hd
  rw [hd.2]; simp) (fun _=>by rw [hl,hgl]; simp only; omega)
 rw [hp] at spec
 have hlen0:(wS n e).length=2*n:=b1n
 simp only [d3z,slN,wG,hlen0] at spec
 have hz:a1k (fm b7n (wS n e))=fm a4p (wS n e):=c34
 have ht:(fm b7n (wS n e)).take (2*n*6)=fm b7n (wS n e):=by rw [<-hlen0]; exact c7v
 have hcl:=hok.len
 have hcc:p.consts.length=n:=by rw [hcs]; exact hok.clen
 have hpl:p.code.length=2*n+1:=by rw [hc]; simp [hcl]
 refine a6d rfl ?_
 simp (disch:=omega) [go_sem,a4c]
 refine a0i (c72 hS hA) rfl rfl ?_
 simp (disch:=omega) [go_sem]
 refine a0i k1 rfl rfl ?_
 simp (disch:=omega) [go_sem,hn]
 refine a0i k2 rfl rfl ?_
 simp (disch:=omega) [go_sem,hn,he]
 refine f6z (n:=n) (e:=e) (by omega) (by omega) (by simp (disch:=omega) [go_sem,hn,he]) (fun s h=> ?_)
 generalize hvv:fm b7n (wS n e)=w at *
 simp only [eP] at spec
 simp (disch:=omega) [go_sem,h,hz,ht]
 refine a7t spec (by simp [go_sem,noRef]) ?_ ?_
 all_goals
  simp (disch:=omega) [go_sem,h,hpl,hcc,hv,hout,hws,a0r]
  refine f60 (n:=n) (e:=e) (p:=p) (q:=q) (by omega) (by omega) hc hcs hok (by simp (disch:=omega) [go_sem,h,hpl,hcc,hv,hout,hws,eP]) (fun s1 h1=> ?_)
  simp only [eP,hout] at h1
  simp (disch:=omega) [go_sem,h1]
end
end Go.Ideal.Tryd
end
