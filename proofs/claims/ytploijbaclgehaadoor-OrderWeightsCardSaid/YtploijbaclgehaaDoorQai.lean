/- Part Qai of the proof: walks on a machine that is proved sound. -/
import Derived.Test.YtploijbaclgehaaDoorQah
set_option linter.unusedVariables false
set_option linter.unusedSimpArgs false
section
namespace Go.Ideal
section
variable {N:Nat} {st st1 st2:St} {P:Program} {G:GG} {K:St->Prop}
def a92 (N:Nat) (a b:St):Prop:=(∀ u,u < N->b.s u=a.s u)/\∀ u,b.ep u=a.ep u
@[congr] theorem c9d {a b b':St} (h:b=b'):a92 N a b=a92 N a b':=by rw [h]
@[go_sem] theorem d2g:a92 N st st=True:=by simp [a92]
def c7r (N:Nat) (a b:St):Prop:=a92 N a b
@[go_sem] theorem d6d {t:Nat} {v:AV}:a92 N st1 (st2.put t v)=frI (decide (N<=t)&& !nm v) (a92 N st1 st2) (c7r N st1 (st2.put t v)):=by
 simp only [frI,c7r]
 split
 ·rename_i h
  simp only [Bool.and_eq_true,decide_eq_true_eq,Bool.not_eq_true'] at h
  apply propext
  simp only [a92,St.put_s,St.put_ep,h.2,Bool.false_eq_true,and_false,if_false]
  constructor
  ·rintro ⟨h1,h2⟩
   exact ⟨fun u hu=>by have:=h1 u hu; rwa [if_neg (by omega)] at this,h2⟩
  ·rintro ⟨h1,h2⟩
   exact ⟨fun u hu=>by rw [if_neg (by omega)]; exact h1 u hu,h2⟩
 ·rfl
theorem c03 {T:List (Nat×AV)} {d:Option Nat} {res:AV} (h:a92 N st1 st2):c44 st2 N T d res=c44 st1 N T d res:=by
 have e:st2.lentS N T=st1.lentS N T:=by
  refine St.ext' (fun u=> ?_) (fun u=>h.2 u)
  simp only [St.lentS]
  by_cases hu:u < N
  ·simp [hu,h.1 u hu]
  ·simp [hu]
 cases d<;>simp only [c44,e]
theorem a93 {d:Option Nat} {res:AV} (h:a92 N st1 st2):a8w st2 N d res=a8w st1 N d res:=by
 have e:st2.clear N=st1.clear N:=by
  refine St.ext' (fun u=> ?_) (fun u=>h.2 u)
  simp only [St.clear]
  by_cases hu:u < N
  ·simp [hu,h.1 u hu]
  ·simp [hu]
 cases d<;>simp only [a8w,e]
theorem b4j {d:Option Nat} {f:FuncId} {pre:List AV} {L:List (Nat×Nat)} {res:AV} {posts:List (Nat×AV)} (hA:ACallsX P G f pre res posts) (hn:noRef res=true) (hp:posts.map (·.1)=L.map (·.2)) (hv:(posts.all fun p=>c12 pre p)=true) (h12:a92 N st1 st2)
  (h:K (c44 st1 N ((L.map (·.1)).zip (posts.map (·.2))) d res)):clx P G N d f pre L st1 st2 K:=c81 hA hn hp hv h (by rw [c03 h12]; exact h)
theorem a0n {d:Option Nat} {f:FuncId} {pre:List AV} {res:AV} (hA:ACalls P G f pre res) (hn:noRef res=true) (h12:a92 N st1 st2) (h:K (a8w st1 N d res)):cal P G N d f pre st1 st2 K:=b8h hA hn h (by rw [a93 h12]; exact h)
theorem b1w {aft:DA} {rest:List AO} {fps:List (List Nat×List Nat)} {d:Option Nat} {f:FuncId} {st:St} {pre:List AV} {rd:List Nat} {res:AV} (hA:ACalls P G f pre res) (hn:noRef res=true) (h12:a92 N st1 st2) (hrd:∀ t∈rd,t < N) (W:List Nat) (hW:∀ t∈W,t < N) (hf:fr N W st (a8w st1 N d res)) (h:a6d aft.2 (a8w st1 N d res)/\a6e P G N aft rest (fps++[(rd,W)]) K (a8w st1 N d res)):b93 P G N aft d f pre rd rest fps K st st1 st2:=by
 cases hi:a0w res with
 | true=>exact a08 hA hn hi hrd W hW hf h
 | false=>exact c5t hA hn hi hrd W hW (by rw [a93 h12]; exact hf) (by rw [a93 h12]; exact h)
end
namespace Tryd
section
variable {bk:Nat->Nat×Nat} {e:Er} {st:St} {N d t j:Nat} {x:X}
@[go_sem] theorem e9y:nm (a0u bk e)=false:=by cases e<;>rfl
@[go_sem] theorem d34:a0p (a0u bk e)=none:=by cases e<;>rfl
@[go_sem] theorem c8k:a2h (a0u bk e)=none:=by cases e<;>rfl
@[go_sem] theorem e3l:frz (a0u bk e)=a0u bk e:=by cases e<;>simp only [a0u,frz]
@[go_sem] theorem d2y {kl:Nat->List Nat->Bool}:a04 kl (a0u bk e)=a0u bk e:=by cases e<;>simp only [a0u,a04]
@[go_sem] theorem e4l:mvS st d x (a0u bk e)=some (st.put d (a0u bk e)):=by cases e<;>simp [a0u,mvS,a0m]
@[go_sem] theorem d4y:b4i st N d (.t t) (a0u bk e)=some (st.put d (a0u bk e)):=by cases e<;>simp [a0u,go_sem]
@[go_sem] theorem e3y {q:List Nat} {o:Nat}:ldK st t q o (some (a0u bk e))=some (a0u bk e):=by cases e<;>simp [a0u,ldK,a0m]
@[go_sem] theorem e5b:psS st N (.t t) j (a0u bk e)=some (st.put j (a0u bk e)):=by cases e<;>simp [a0u,go_sem]
@[go_sem] theorem e3q:gvS st N (.t t) j (a0u bk e)=some (st.put j (a0u bk e)):=by cases e<;>simp [a0u,go_sem]
@[go_sem] theorem d6s {i:Nat} {ks:List AV}:c9f st N d (.t t) i ks (some (a0u bk e))=some (st.put d (a0u bk e)):=by cases e<;>simp [a0u,go_sem]
@[go_sem] theorem e23:a22 .eql 2 (a0u bk e) (.lit .nilIface)=some (.lit (.bool e.isNil)):=by cases e<;>rfl
@[go_sem] theorem e4o:a22 .neq 2 (a0u bk e) (.lit .nilIface)=some (.lit (.bool !e.isNil)):=by cases e<;>rfl
def kE (st:St) (t:Nat):Er->St
 | .at _ _=>st.put t .dead
 | _=>st
@[go_sem] theorem e3p:giv st N (.t t) (a0u bk e)=some (kE st t e,[a0u bk e]):=by cases e<;>simp [a0u,go_sem,kE,c45]
@[go_sem] theorem f8h {u:Nat} (h:u≠t):(kE st t e).s u=st.s u:=by cases e<;>simp [kE,h]
@[go_sem] theorem f7b {u:Nat}:(kE st t e).ep u=st.ep u:=by cases e<;>simp [kE,St.put_ep,a0p]
end
end Tryd
end Go.Ideal
end
