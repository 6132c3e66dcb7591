/- Part Qaw of the proof: walks on a machine that is proved sound. -/
import Derived.Test.YtlemfkimffoiiaaGreatDoorQav
set_option linter.unusedVariables false
set_option linter.unusedSimpArgs false
set_option maxRecDepth 100000
section
namespace Go.Ideal.Tryz
theorem b79 {α:Type} [Inhabited α] {l:List α} {i:Nat} (h:i < l.length):l[i]! =l[i]:=by simp [h]
structure Sp where
 a:Int
 b:Int
 off:Int
 len:Int
 deriving DecidableEq
instance:Inhabited Sp:=⟨⟨0,0,0,0⟩⟩
def eS (s:Sp):List AV:=[li s.a,li s.b,li s.off,li s.len]
@[go_sem] theorem f95 {xs:List Sp}:(fm eS xs).length=xs.length*4:=a4s fun _=>rfl
@[go_sem] theorem f94 {xs:List Sp} {i:Nat} (h:i < xs.length):((fm eS xs).drop (i*4)).take 4=[li xs[i].a,li xs[i].b,li xs[i].off,li xs[i].len]:=a81 (f:=eS) (k:=4) (fun _=>rfl) h
@[go_sem] theorem f2z {xs:List Sp}:(fm eS xs).take (xs.length*4)=fm eS xs:=a4f fun _=>rfl
@[go_sem] theorem e78 {xs:List Sp}:a0m (fm eS xs)=true:=a8o fun _=>rfl
@[go_sem] theorem f93 {xs:List Sp}:a1k (fm eS xs)=fm eS xs:=by
 rw [a7g]; congr 1
@[go_sem] theorem e77 {xs:List Sp}:a03 (fm eS xs)=true:=a8n fun n=>by simp [eS,go_sem]
abbrev slS (l:List Sp):AV:= .sl l.length (fm eS l)
section
variable {G:GG} {bk:Nat->Nat×Nat} {Q:Exit->St->Prop} {st:St}
end
end Go.Ideal.Tryz
end
