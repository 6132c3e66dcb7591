/- Part Qav of the proof: walks on a machine that is proved sound. -/
import Derived.Test.YtploijbaclgehaaDoorQau
set_option linter.unusedVariables false
set_option linter.unusedSimpArgs false
set_option maxRecDepth 100000
section
namespace Go.Ideal.Tryd
structure Sp where
 a:Int
 b:Int
 off:Int
 len:Int
 deriving DecidableEq
instance:Inhabited Sp:=⟨⟨0,0,0,0⟩⟩
def eS (s:Sp):List AV:=[li s.a,li s.b,li s.off,li s.len]
@[go_sem] theorem f3j {xs:List Sp}:(fm eS xs).length=xs.length*4:=a51 fun _=>rfl
@[go_sem] theorem f3i {xs:List Sp} {i:Nat} (h:i < xs.length):((fm eS xs).drop (i*4)).take 4=[li xs[i].a,li xs[i].b,li xs[i].off,li xs[i].len]:=b0l (f:=eS) (k:=4) (fun _=>rfl) h
@[go_sem] theorem e7d {xs:List Sp}:(fm eS xs).take (xs.length*4)=fm eS xs:=a35 fun _=>rfl
@[go_sem] theorem e2t {xs:List Sp}:a0l (fm eS xs)=true:=a7x fun _=>rfl
@[go_sem] theorem f3h {xs:List Sp}:a1n (fm eS xs)=fm eS xs:=by
 rw [a6v]; congr 1
@[go_sem] theorem e2s {xs:List Sp}:a02 (fm eS xs)=true:=a7w fun n=>by simp [eS,go_sem]
abbrev slS (l:List Sp):AV:= .sl l.length (fm eS l)
section
variable {G:GG} {bk:Nat->Nat×Nat} {Q:Exit->St->Prop} {st:St}
end
end Go.Ideal.Tryd
end
