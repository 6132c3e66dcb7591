/- Part Qav of the proof: walks on a machine that is proved sound. -/
import Derived.Test.YtfncabcldhemkaaGreatDoorQah
import Derived.Test.YtfncabcldhemkaaGreatDoorQat
import Derived.Test.YtfncabcldhemkaaGreatDoorTie
import Derived.Test.YtfncabcldhemkaaGreatDoorCards
import Derived.SevenTiedAt
import Derived.Carry
set_option linter.unusedVariables false
set_option linter.unusedSimpArgs false
section
namespace Go.Proofs.YtfncabcldhemkaaGreatDoor
open Go Go.ChangeShapes Go.WideShapes Go.RowKit Go.Ideal Go.Ideal.Tryz
theorem c48:(Tryz.f5.params.toList.all fun t=>Tryz.prog.readableRec t&&decide (t < Tryz.prog.types.size))=true:=by kernel_rfl
theorem c5f:Tryz.f5.resultTypes=#[4]:=by kernel_rfl
noncomputable abbrev d0d:List (String×DataW Unit):=Rows.liveSaysRow.laid.filter fun x=>x.2.handleName?.isNone
theorem c0j:(Rows.liveSaysRow.laid.filter fun x=>x.2.handleName?.isSome)=[hX]:=by kernel_rfl
theorem d0z:d7m d0d=true:=by kernel_rfl
theorem b4z (os:Os) (args:Array Value):laidMetH Tryz.prog Rows.liveSaysRow.laid ((b0r os).forCall (fun _ _=>0) ⟨#[],args,[]⟩).memory:=
 laidMetH_of_parts (laidMet_of_run' 8 (by kernel_rfl) (by kernel_rfl)) (by kernel_rfl)
theorem d0y {W:World} (h:laidMetH Tryz.prog Rows.liveSaysRow.laid W):∃ (G:GG) (bk:Nat->Nat×Nat),Sent G bk/\Around G bk/\∀ g v,G.at g v->GC G W g v/\g < W.heap.size:=by
 unfold laidMetH at h
 rw [c0j] at h
 obtain ⟨G,bk,h0,h1,h2⟩:=b5y (hs:=[(9,hV)]) h.1 d0z (fun p hp=>by
  obtain rfl:=List.mem_singleton.1 hp
  exact b19 h.2)
 exact ⟨G,bk,h1,c1x h0,h2⟩
set_option maxRecDepth 100000 in
theorem a7c (os:Os) (started:os.Started) (H:Type) (enc:TypeId×Value->H) :
  ReturnsInHanded {} Tryz.checked os 5 .any (fun w args=>(Rows.liveSaysSpec.pre enc Tryz.prog Tryz.f5 [] false w args/\laidMetH Tryz.prog Rows.liveSaysRow.laid w)/\sizedMet enc Tryz.prog Tryz.f5 (OpenSpec.ofChange Rows.liveSaysSpec) false w args)
   (Rows.liveSaysSpec.post enc Tryz.prog Tryz.f5 false true false false):=by
 refine returnsInHanded_of_change_and (C:=Tryz.checked) (X:=fun w _=>laidMetH Tryz.prog Rows.liveSaysRow.laid w) (fun _ _ _ hh h=>h.of_heap hh) own started (by kernel_rfl) Tryz.func5
  (ChangeSpec.witness_shaped (enc:=enc) (C:=Tryz.checked) (os:=os) (X:=fun w _=>laidMetH Tryz.prog Rows.liveSaysRow.laid w) false (b0r os) #[.agg #[.slice none 0 0,.int .i64 0]] 8 rfl (b7a os _) (by kernel_rfl) (by kernel_rfl) (by kernel_rfl) (b4z os _)) ?_
 intro W base args ds gs before hval0 hW _ hwt hL _
 have hval:∀ (j:Nat) t v,Tryz.f5.params[j]? =some t->args[j]? =some v->Value.okWide Tryz.prog W .any base t v:=hval0
 have hW':=hW
 obtain ⟨p,q,hA0,hV0,rfl,hfz,hnd⟩:=hW
 have hA:DataW.TrodAll enc Tryz.prog W 0 (fun _=>true) true Tryz.f5.params.toList args.toList ds p:=hA0
 rw [Tryz.params5] at hA hval
 obtain ⟨v0,d0,rfl,rfl,h0⟩:=trodAll_one hA
 have hok0:=hval 0 49 v0 rfl rfl
 obtain ⟨rfl,rfl⟩:=trodVars_none (show DataW.TrodVars enc Tryz.prog W (fun _=>true) [] gs q from hV0)
 obtain ⟨fuel0,h0⟩:=h0
 have hww:(d0.weights Tryz.checked.prog 49).all (· <=reachBytes)=true:=by
  have:=hwt
  rw [Tryz.params5] at this
  simpa [DataW.weightsEach,Rows.liveSaysSpec,ChangeSpec.plain] using this
 obtain ⟨a0,q0,r0,c0⟩:=d0f (e:=enc) (w:=W) fuel0 _ d0 p h0 hww
 obtain ⟨G,bk,hS,hAr,hG⟩:=d0y hL
 refine (c2q (c2w (G:=G) hS hAr a0 (by have:=q0.1; unfold reachBytes at this; omega) q0.2) rfl hG (fun i av hi=> ?_)).mono fun e W' ⟨he,hb⟩=> ?_
 ·rcases i with _ | i
  ·simp at hi; subst hi; exact c5s c05 hok0 r0 c0
  ·simp at hi
 ·subst he
  refine ⟨_,rfl,c6d c9p (fun t ht=> ?_) c5f Tryz.underlying4 rfl rfl hW' hb⟩
  have h:=List.all_eq_true.1 c48 t ht
  simp only [Bool.and_eq_true,decide_eq_true_eq] at h
  exact h
theorem b0s:Rows.LiveSaysSaid:=
 OpenClaim.holds_of_wide 5 Tryz.f5 rfl rfl rfl rfl rfl rfl rfl ⟨rfl,rfl,rfl,rfl,rfl⟩ rfl rfl rfl rfl rfl (by kernel_rfl) Tryz.func5 (by kernel_rfl)
  (of_decide_eq_true (by kernel_rfl)) (by unfold Func.isWrapper; rw [if_neg (of_decide_eq_false (by kernel_rfl))]; exact ⟨rfl,rfl⟩)
  (fun os started H enc _=>a7c os started H enc)
theorem liveSays_holds:Rows.LiveSaysCardSaid:=
 Claim7.holds_tied_plain_at .later [] [.handle, .sentinel, .sentinel, .sentinel, .sentinel, .sentinel, .sentinel, .sentinel, .sentinel, .sentinel, .sentinel, .sentinel, .sentinel, .sentinel, .sentinel, .sentinel, .sentinel, .sentinel, .sentinel, .sentinel, .sentinel, .sentinel] true (true, "f7f4ea558fe5f9f6f8b8e16748a41d22cc99cb4f098a2ed6ca4189ee9083e893") true
  b0s (fun _ h=>by cases h) (by kernel_rfl) (fun _ h=>by cases h) liveSays_row_tie rfl ⟨rfl,rfl⟩ (by kernel_rfl) rfl
  (fun f fn hf hfn=>by
   obtain rfl : f = 5 := Option.some.inj ((show Tryz.prog.funcNamed "lodge/lodgelaw22.LiveSays" = some 5 by kernel_rfl).symm.trans hf) |>.symm
   obtain rfl:fn=Tryz.f5:=(Option.some.inj (Tryz.func5.symm.trans hfn)).symm
   exact ⟨by kernel_rfl,fun j t ht=>by
    rw [Tryz.params5] at ht
    have h3:t=49:=by
     rcases j with _ | j
     ·exact by simpa using ht.symm
     ·simp at ht
    subst h3
    exact (show Tryz.prog.wantsStandIn 49=false by kernel_rfl)⟩)
  (by kernel_rfl)
#print axioms liveSays_holds
end Go.Proofs.YtfncabcldhemkaaGreatDoor
end
