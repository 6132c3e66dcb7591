/- Part Qbd of the proof: walks on a machine that is proved sound. -/
import Derived.Test.YtploijbaclgehaaDoorQav
import Derived.Test.YtploijbaclgehaaDoorQax
import Derived.Test.YtploijbaclgehaaDoorQba
import Derived.Test.YtploijbaclgehaaDoorTie
import Derived.Test.YtploijbaclgehaaDoorCards
import Derived.SevenTiedAt
import Derived.Carry
set_option linter.unusedVariables false
set_option linter.unusedSimpArgs false
section
namespace Go.Proofs.YtploijbaclgehaaDoor
open Go Go.ChangeShapes Go.WideShapes Go.RowKit Go.Ideal Go.Ideal.Tryd
theorem c28:(Tryd.f7.params.toList.all fun t=>Tryd.prog.readableRec t&&decide (t < Tryd.prog.types.size))=true:=by kernel_rfl
theorem c3f:Tryd.f7.resultTypes=#[4]:=by kernel_rfl
noncomputable abbrev c83:List (String×DataW Unit):=Rows.genWeightsRow.laid.filter fun x=>x.2.handleName?.isNone
theorem b7u:(Rows.genWeightsRow.laid.filter fun x=>x.2.handleName?.isSome)=[hX]:=by kernel_rfl
theorem c9l:b45 [0,1,2,3,4,5,6,7] c83=true:=by kernel_rfl
theorem b1y (os:Os) (args:Array Value):laidMetH Tryd.prog Rows.genWeightsRow.laid ((a4a os).forCall (fun _ _=>0) ⟨#[],args,[]⟩).memory:=
 laidMetH_of_parts (laidMet_of_run' 8 (by kernel_rfl) (by kernel_rfl)) (by kernel_rfl)
theorem c9j {W:World} (h:laidMetH Tryd.prog Rows.genWeightsRow.laid W):∃ (G:GG) (bk:Nat->Nat×Nat),SentG G bk/\Around G bk/\∀ g v,G.at g v->GC G W g v/\g < W.heap.size:=by
 unfold laidMetH at h
 rw [b7u] at h
 obtain ⟨G,bk,h0,h1,h2⟩:=a5v (hs:=[(8,hV)]) h.1 c9l (fun p hp=>by
  obtain rfl:=List.mem_singleton.1 hp
  exact a4z h.2)
 exact ⟨G,bk,h1,b0j h0,h2⟩
set_option maxRecDepth 100000 in
theorem a4t (os:Os) (started:os.Started) (H:Type) (enc:TypeId×Value->H) :
  ReturnsInHanded {} Tryd.checked os 7 .any (fun w args=>(Rows.genWeightsSpec.pre enc Tryd.prog Tryd.f7 [] false w args/\laidMetH Tryd.prog Rows.genWeightsRow.laid w)/\sizedMet enc Tryd.prog Tryd.f7 (OpenSpec.ofChange Rows.genWeightsSpec) false w args)
   (Rows.genWeightsSpec.post enc Tryd.prog Tryd.f7 false true false false):=by
 refine returnsInHanded_of_change_and (C:=Tryd.checked) (X:=fun w _=>laidMetH Tryd.prog Rows.genWeightsRow.laid w) (fun _ _ _ hh h=>h.of_heap hh) own started (by kernel_rfl) Tryd.func7
  (ChangeSpec.witness_shaped (enc:=enc) (C:=Tryd.checked) (os:=os) (X:=fun w _=>laidMetH Tryd.prog Rows.genWeightsRow.laid w) false (a4a os) #[.int .i64 0,.int .i64 0] 8 rfl (a70 os _) (by kernel_rfl) (by kernel_rfl) (by kernel_rfl) (b1y os _)) ?_
 intro W base args ds gs before hval0 hW _ hwt hL _
 have hval:∀ (j:Nat) t v,Tryd.f7.params[j]? =some t->args[j]? =some v->Value.okWide Tryd.prog W .any base t v:=hval0
 have hW':=hW
 obtain ⟨p,q,hA0,hV0,rfl,hfz,hnd⟩:=hW
 have hA:DataW.TrodAll enc Tryd.prog W 0 (fun _=>true) true Tryd.f7.params.toList args.toList ds p:=hA0
 rw [Tryd.params7] at hA hval
 obtain ⟨v0,v1,d0,d1,p0,p1,rfl,rfl,rfl,h0,h1⟩:=trodAll_two hA
 obtain ⟨a0,rfl,rfl,rfl,q0⟩:=open_int Tryd.underlying3 (hval 0 3 v0 rfl rfl) h0
 obtain ⟨a1,rfl,rfl,rfl,q1⟩:=open_int Tryd.underlying3 (hval 1 3 v1 rfl rfl) h1
 obtain ⟨rfl,rfl⟩:=trodVars_none (show DataW.TrodVars enc Tryd.prog W (fun _=>true) [] gs q from hV0)
 obtain ⟨G,bk,hS,hAr,hG⟩:=c9j hL
 refine (b03 (b34 (G:=G) hS hAr a0 a1) rfl hG (fun i av hi=> ?_)).mono fun e W' ⟨he,hb⟩=> ?_
 ·rcases i with _ | _ | i
  ·simp at hi; subst hi; simp [R]
  ·simp at hi; subst hi; simp [R]
  ·simp at hi
 ·subst he
  refine ⟨_,rfl,b3j b7w (fun t ht=> ?_) c3f Tryd.underlying4 rfl rfl hW' hb⟩
  have h:=List.all_eq_true.1 c28 t ht
  simp only [Bool.and_eq_true,decide_eq_true_eq] at h
  exact h
theorem a6t:Rows.GenWeightsSaid:=
 OpenClaim.holds_of_wide 7 Tryd.f7 rfl rfl rfl rfl rfl rfl rfl ⟨rfl,rfl,rfl,rfl,rfl⟩ rfl rfl rfl rfl rfl (by kernel_rfl) Tryd.func7 (by kernel_rfl)
  (of_decide_eq_true (by kernel_rfl)) (by unfold Func.isWrapper; rw [if_neg (of_decide_eq_false (by kernel_rfl))]; exact ⟨rfl,rfl⟩)
  (fun os started H enc _=>a4t os started H enc)
theorem genWeights_holds:Rows.GenWeightsCardSaid:=
 Claim7.holds_tied_plain_at .later [] [.handle, .sentinel, .sentinel, .sentinel, .sentinel, .sentinel, .sentinel, .sentinel, .sentinel] true (true, "840a378206cb977368c7765a303fe499439375cf92ab7180109b9469615d36f8") true
  a6t (fun _ h=>by cases h) (by kernel_rfl) (fun _ h=>by cases h) genWeights_row_tie rfl ⟨rfl,rfl⟩ (by kernel_rfl) rfl
  (fun f fn hf hfn=>by
   obtain rfl : f = 7 := Option.some.inj ((show Tryd.prog.funcNamed "lodge/lodgelaw23.GenWeights" = some 7 by kernel_rfl).symm.trans hf) |>.symm
   obtain rfl:fn=Tryd.f7:=(Option.some.inj (Tryd.func7.symm.trans hfn)).symm
   exact ⟨by kernel_rfl,fun j t ht=>by
    rw [Tryd.params7] at ht
    have h3:t=3:=by
     rcases j with _ | _ | j
     ·exact by simpa using ht.symm
     ·exact by simpa using ht.symm
     ·simp at ht
    subst h3
    exact (show Tryd.prog.wantsStandIn 3=false by kernel_rfl)⟩)
  (by kernel_rfl)
#print axioms genWeights_holds
end Go.Proofs.YtploijbaclgehaaDoor
end
