/- Part Qai of the proof: walks on a machine that is proved sound. -/
import Derived.Test.YtploijbaclgehaaDoorQah
set_option linter.unusedVariables false
set_option linter.unusedSimpArgs false
section
namespace Go.Ideal
section
variable {N:Nat} {st st1 st2:St} {P:Program} {G:GG} {K:St->Prop}
def a9u (N:Nat) (a b:St):Prop:=(∀ u,u < N->b.s u=a.s u)/\∀ u,b.ep u=a.ep u
@[congr] theorem d2n {a b b':St} (h:b=b'):a9u N a b=a9u N a b':=by rw [h]
@[go_sem] theorem d52:a9u N st st=True:=by simp [a9u]
def d0x (N:Nat) (a b:St):Prop:=a9u N a b
@[go_sem] theorem d94 {t:Nat} {v:AV}:a9u N st1 (st2.put t v)=frI (decide (N<=t)&& !nm v) (a9u N st1 st2) (d0x N st1 (st2.put t v)):=by
 simp only [frI,d0x]
 split
 ·rename_i h
  simp only [Bool.and_eq_true,decide_eq_true_eq,Bool.not_eq_true'] at h
  apply propext
  simp only [a9u,St.put_s,St.put_ep,h.2,Bool.false_eq_true,and_false,if_false]
  constructor
  ·rintro ⟨h1,h2⟩
   exact ⟨fun u hu=>by have:=h1 u hu; rwa [if_neg (by omega)] at this,h2⟩
  ·rintro ⟨h1,h2⟩
   exact ⟨fun u hu=>by rw [if_neg (by omega)]; exact h1 u hu,h2⟩
 ·rfl
theorem b41 {T:List (Nat×AV)} {d:Option Nat} {res:AV} (h:a9u N st1 st2):c3l st2 N T d res=c3l st1 N T d res:=by
 have e:st2.lentS N T=st1.lentS N T:=by
  refine St.ext' (fun u=> ?_) (fun u=>h.2 u)
  simp only [St.lentS]
  by_cases hu:u < N
  ·simp [hu,h.1 u hu]
  ·simp [hu]
 cases d<;>simp only [c3l,e]
theorem b0s {d:Option Nat} {res:AV} (h:a9u N st1 st2):a9v st2 N d res=a9v st1 N d res:=by
 have e:st2.clear N=st1.clear N:=by
  refine St.ext' (fun u=> ?_) (fun u=>h.2 u)
  simp only [St.clear]
  by_cases hu:u < N
  ·simp [hu,h.1 u hu]
  ·simp [hu]
 cases d<;>simp only [a9v,e]
theorem b53 {d:Option Nat} {f:FuncId} {pre:List AV} {L:List (Nat×Nat)} {res:AV} {posts:List (Nat×AV)} (hA:ACallsX P G f pre res posts) (hn:noRef res=true) (hp:posts.map (·.1)=L.map (·.2)) (hv:(posts.all fun p=>c4j pre p)=true) (h12:a9u N st1 st2)
  (h:K (c3l st1 N ((L.map (·.1)).zip (posts.map (·.2))) d res)):clx P G N d f pre L st1 st2 K:=d19 hA hn hp hv h (by rw [b41 h12]; exact h)
theorem a0k {d:Option Nat} {f:FuncId} {pre:List AV} {res:AV} (hA:ACalls P G f pre res) (hn:noRef res=true) (h12:a9u N st1 st2) (h:K (a9v st1 N d res)):cal P G N d f pre st1 st2 K:=a82 hA hn h (by rw [b0s h12]; exact h)
theorem a7x {aft:DA} {rest:List AO} {fps:List (List Nat×List Nat)} {d:Option Nat} {f:FuncId} {st:St} {pre:List AV} {rd:List Nat} {res:AV} (hA:ACalls P G f pre res) (hn:noRef res=true) (h12:a9u N st1 st2) (hrd:∀ t∈rd,t < N) (W:List Nat) (hW:∀ t∈W,t < N) (hf:fr N W st (a9v st1 N d res)) (h:a6c aft.2 (a9v st1 N d res)/\a6f P G N aft rest (fps++[(rd,W)]) K (a9v st1 N d res)):c16 P G N aft d f pre rd rest fps K st st1 st2:=by
 cases hi:a0x res with
 | true=>exact a0w hA hn hi hrd W hW hf h
 | false=>exact c8l hA hn hi hrd W hW (by rw [b0s h12]; exact hf) (by rw [b0s h12]; exact h)
end
namespace Tryd
section
variable {bk:Nat->Nat×Nat} {e:Er} {st:St} {N d t j:Nat} {x:X}
@[go_sem] theorem f4l:nm (a0s bk e)=false:=by cases e<;>rfl
@[go_sem] theorem d7t:a0p (a0s bk e)=none:=by cases e<;>rfl
@[go_sem] theorem d1t:a2j (a0s bk e)=none:=by cases e<;>rfl
@[go_sem] theorem e7u:frz (a0s bk e)=a0s bk e:=by cases e<;>simp only [a0s,frz]
@[go_sem] theorem d6n {kl:Nat->List Nat->Bool}:a07 kl (a0s bk e)=a0s bk e:=by cases e<;>simp only [a0s,a07]
@[go_sem] theorem e8s:mvS st d x (a0s bk e)=some (st.put d (a0s bk e)):=by cases e<;>simp [a0s,mvS,a0n]
@[go_sem] theorem d8n:b51 st N d (.t t) (a0s bk e)=some (st.put d (a0s bk e)):=by cases e<;>simp [a0s,go_sem]
@[go_sem] theorem e77 {q:List Nat} {o:Nat}:ldK st t q o (some (a0s bk e))=some (a0s bk e):=by cases e<;>simp [a0s,ldK,a0n]
@[go_sem] theorem e9h:psS st N (.t t) j (a0s bk e)=some (st.put j (a0s bk e)):=by cases e<;>simp [a0s,go_sem]
@[go_sem] theorem e7z:gvS st N (.t t) j (a0s bk e)=some (st.put j (a0s bk e)):=by cases e<;>simp [a0s,go_sem]
@[go_sem] theorem e0j {i:Nat} {ks:List AV}:d2p st N d (.t t) i ks (some (a0s bk e))=some (st.put d (a0s bk e)):=by cases e<;>simp [a0s,go_sem]
@[go_sem] theorem e7d:a27 .eql 2 (a0s bk e) (.lit .nilIface)=some (.lit (.bool e.isNil)):=by cases e<;>rfl
@[go_sem] theorem e8v:a27 .neq 2 (a0s bk e) (.lit .nilIface)=some (.lit (.bool !e.isNil)):=by cases e<;>rfl
def kE (st:St) (t:Nat):Er->St
 | .at _ _=>st.put t .dead
 | _=>st
@[go_sem] theorem e7y:giv st N (.t t) (a0s bk e)=some (kE st t e,[a0s bk e]):=by cases e<;>simp [a0s,go_sem,kE,c7r]
@[go_sem] theorem g27 {u:Nat} (h:u≠t):(kE st t e).s u=st.s u:=by cases e<;>simp [kE,h]
@[go_sem] theorem g16 {u:Nat}:(kE st t e).ep u=st.ep u:=by cases e<;>simp [kE,St.put_ep,a0p]
end
end Tryd
end Go.Ideal
end
