/- Part Qav of the proof: walks on a machine that is proved sound. -/
import Derived.Test.YtlemfkimffoiiaaDoorQau
set_option linter.unusedVariables false
set_option linter.unusedSimpArgs false
set_option maxRecDepth 100000
section
namespace Go.Ideal.Tryd
theorem b7w {α:Type} [Inhabited α] {l:List α} {i:Nat} (h:i < l.length):l[i]! =l[i]:=by simp [h]
structure Sp where
 a:Int
 b:Int
 off:Int
 len:Int
 deriving DecidableEq
instance:Inhabited Sp:=⟨⟨0,0,0,0⟩⟩
def eS (s:Sp):List AV:=[li s.a,li s.b,li s.off,li s.len]
@[go_sem] theorem f7p {xs:List Sp}:(fm eS xs).length=xs.length*4:=a6c fun _=>rfl
@[go_sem] theorem f7o {xs:List Sp} {i:Nat} (h:i < xs.length):((fm eS xs).drop (i*4)).take 4=[li xs[i].a,li xs[i].b,li xs[i].off,li xs[i].len]:=a8c (f:=eS) (k:=4) (fun _=>rfl) h
@[go_sem] theorem f0k {xs:List Sp}:(fm eS xs).take (xs.length*4)=fm eS xs:=a4d fun _=>rfl
@[go_sem] theorem e5z {xs:List Sp}:a0m (fm eS xs)=true:=a72 fun _=>rfl
@[go_sem] theorem f7n {xs:List Sp}:a1m (fm eS xs)=fm eS xs:=by
 rw [a63]; congr 1
@[go_sem] theorem e5y {xs:List Sp}:a02 (fm eS xs)=true:=a71 fun n=>by simp [eS,go_sem]
abbrev slS (l:List Sp):AV:= .sl l.length (fm eS l)
section
variable {G:GG} {bk:Nat->Nat×Nat} {Q:Exit->St->Prop} {st:St}
end
end Go.Ideal.Tryd
end
