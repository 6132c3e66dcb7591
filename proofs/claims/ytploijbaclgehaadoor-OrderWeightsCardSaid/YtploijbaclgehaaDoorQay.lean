/- Part Qay of the proof: walks on a machine that is proved sound. -/
import Derived.Test.YtploijbaclgehaaDoorQau
import Derived.Test.YtploijbaclgehaaDoorQaw
import Derived.Test.YtploijbaclgehaaDoorTie
import Derived.Test.YtploijbaclgehaaDoorCards
import Derived.SevenTiedAt
import Derived.Carry
set_option linter.unusedVariables false
set_option linter.unusedSimpArgs false
section
namespace Go.Proofs.YtploijbaclgehaaDoor
open Go Go.ChangeShapes Go.WideShapes Go.RowKit Go.Ideal Go.Ideal.Tryd
theorem b9g:(Tryd.f4.params.toList.all fun t=>Tryd.prog.readableRec t&&decide (t < Tryd.prog.types.size))=true:=by kernel_rfl
theorem b9l:Tryd.f4.resultTypes=#[4]:=by kernel_rfl
noncomputable abbrev c38:List (String×DataW Unit):=Rows.orderWeightsRow.laid.filter fun x=>x.2.handleName?.isNone
theorem b4u:(Rows.orderWeightsRow.laid.filter fun x=>x.2.handleName?.isSome)=[hX]:=by kernel_rfl
theorem c4j:d0p c38=true:=by kernel_rfl
theorem a96 (os:Os) (args:Array Value):laidMetH Tryd.prog Rows.orderWeightsRow.laid ((a7b os).forCall (fun _ _=>0) ⟨#[],args,[]⟩).memory:=
 laidMetH_of_parts (laidMet_of_run' 8 (by kernel_rfl) (by kernel_rfl)) (by kernel_rfl)
theorem c4i {W:World} (h:laidMetH Tryd.prog Rows.orderWeightsRow.laid W):∃ (G:GG) (bk:Nat->Nat×Nat),Sent G bk/\Around G bk/\∀ g v,G.at g v->GC G W g v/\g < W.heap.size:=by
 unfold laidMetH at h
 rw [b4u] at h
 obtain ⟨G,bk,h0,h1,h2⟩:=b01 (hs:=[(8,hV)]) h.1 c4j (fun p hp=>by
  obtain rfl:=List.mem_singleton.1 hp
  exact a8a h.2)
 exact ⟨G,bk,h1,b53 h0,h2⟩
set_option maxRecDepth 100000 in
theorem a3k (os:Os) (started:os.Started) (H:Type) (enc:TypeId×Value->H) :
  ReturnsInHanded {} Tryd.checked os 4 .any (fun w args=>(Rows.orderWeightsSpec.pre enc Tryd.prog Tryd.f4 [] false w args/\laidMetH Tryd.prog Rows.orderWeightsRow.laid w)/\sizedMet enc Tryd.prog Tryd.f4 (OpenSpec.ofChange Rows.orderWeightsSpec) false w args)
   (Rows.orderWeightsSpec.post enc Tryd.prog Tryd.f4 false true false false):=by
 refine returnsInHanded_of_change_and (C:=Tryd.checked) (X:=fun w _=>laidMetH Tryd.prog Rows.orderWeightsRow.laid w) (fun _ _ _ hh h=>h.of_heap hh) own started (by kernel_rfl) Tryd.func4
  (ChangeSpec.witness_shaped (enc:=enc) (C:=Tryd.checked) (os:=os) (X:=fun w _=>laidMetH Tryd.prog Rows.orderWeightsRow.laid w) false (a7b os) #[.int .i64 0,.int .i64 0,.bool false] 8 rfl (b12 os _) (by kernel_rfl) (by kernel_rfl) (by kernel_rfl) (a96 os _)) ?_
 intro W base args ds gs before hval0 hW _ hwt hL _
 have hval:∀ (j:Nat) t v,Tryd.f4.params[j]? =some t->args[j]? =some v->Value.okWide Tryd.prog W .any base t v:=hval0
 have hW':=hW
 obtain ⟨p,q,hA0,hV0,rfl,hfz,hnd⟩:=hW
 have hA:DataW.TrodAll enc Tryd.prog W 0 (fun _=>true) true Tryd.f4.params.toList args.toList ds p:=hA0
 rw [Tryd.params4] at hA hval
 obtain ⟨v0,v1,v2,d0,d1,d2,p0,p1,p2,rfl,rfl,rfl,h0,h1,h2⟩:=trodAll_three hA
 obtain ⟨a0,rfl,rfl,rfl,q0⟩:=open_int Tryd.underlying3 (hval 0 3 v0 rfl rfl) h0
 obtain ⟨a1,rfl,rfl,rfl,q1⟩:=open_int Tryd.underlying3 (hval 1 3 v1 rfl rfl) h1
 obtain ⟨a2,rfl,rfl,rfl⟩:=open_bool Tryd.underlying4 (hval 2 4 v2 rfl rfl) h2
 obtain ⟨rfl,rfl⟩:=trodVars_none (show DataW.TrodVars enc Tryd.prog W (fun _=>true) [] gs q from hV0)
 obtain ⟨G,bk,hS,hAr,hG⟩:=c4i hL
 refine (b6r (a9i (G:=G) hS hAr a0 a1 a2) rfl hG (fun i av hi=> ?_)).mono fun e W' ⟨he,hb⟩=> ?_
 ·rcases i with _ | _ | _ | i
  ·simp at hi; subst hi; simp [R]
  ·simp at hi; subst hi; simp [R]
  ·simp at hi; subst hi; simp [R]
  ·simp at hi
 ·subst he
  refine ⟨_,rfl,c0e c3m (fun t ht=> ?_) b9l Tryd.underlying4 rfl rfl hW' hb⟩
  have h:=List.all_eq_true.1 b9g t ht
  simp only [Bool.and_eq_true,decide_eq_true_eq] at h
  exact h
theorem a4o:Rows.OrderWeightsSaid:=
 OpenClaim.holds_of_wide 4 Tryd.f4 rfl rfl rfl rfl rfl rfl rfl ⟨rfl,rfl,rfl,rfl,rfl⟩ rfl rfl rfl rfl rfl (by kernel_rfl) Tryd.func4 (by kernel_rfl)
  (of_decide_eq_true (by kernel_rfl)) (by unfold Func.isWrapper; rw [if_neg (of_decide_eq_false (by kernel_rfl))]; exact ⟨rfl,rfl⟩)
  (fun os started H enc _=>a3k os started H enc)
theorem orderWeights_holds:Rows.OrderWeightsCardSaid:=
 Claim7.holds_tied_plain_at .later [] [.handle, .sentinel, .sentinel, .sentinel, .sentinel, .sentinel, .sentinel, .sentinel, .sentinel, .sentinel, .sentinel, .sentinel, .sentinel, .sentinel, .sentinel, .sentinel, .sentinel, .sentinel, .sentinel, .sentinel, .sentinel, .sentinel] true (true, "840a378206cb977368c7765a303fe499439375cf92ab7180109b9469615d36f8") true
  a4o (fun _ h=>by cases h) (by kernel_rfl) (fun _ h=>by cases h) orderWeights_row_tie rfl ⟨rfl,rfl⟩ (by kernel_rfl) rfl
  (fun f fn hf hfn=>by
   obtain rfl : f = 4 := Option.some.inj ((show Tryd.prog.funcNamed "lodge/lodgelaw18.OrderWeights" = some 4 by kernel_rfl).symm.trans hf) |>.symm
   obtain rfl:fn=Tryd.f4:=(Option.some.inj (Tryd.func4.symm.trans hfn)).symm
   exact ⟨by kernel_rfl,fun j t ht=>by
    rw [Tryd.params4] at ht
    have h3:t=3\/t=4:=by
     rcases j with _ | _ | _ | j
     ·exact .inl (by simpa using ht.symm)
     ·exact .inl (by simpa using ht.symm)
     ·exact .inr ((by simpa using ht.symm))
     ·simp at ht
    rcases h3 with rfl | rfl
    ·exact (show Tryd.prog.wantsStandIn 3=false by kernel_rfl)
    ·exact (show Tryd.prog.wantsStandIn 4=false by kernel_rfl)⟩)
  (by kernel_rfl)
#print axioms orderWeights_holds
end Go.Proofs.YtploijbaclgehaaDoor
end
