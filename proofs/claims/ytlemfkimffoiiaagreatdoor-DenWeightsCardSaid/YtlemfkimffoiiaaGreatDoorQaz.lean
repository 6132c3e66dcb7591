/- Part Qaz of the proof: walks on a machine that is proved sound. -/
import Derived.Test.YtlemfkimffoiiaaGreatDoorQav
import Derived.Test.YtlemfkimffoiiaaGreatDoorQax
import Derived.Test.YtlemfkimffoiiaaGreatDoorTie
import Derived.Test.YtlemfkimffoiiaaGreatDoorCards
import Derived.SevenTiedAt
import Derived.Carry
set_option linter.unusedVariables false
set_option linter.unusedSimpArgs false
section
namespace Go.Proofs.YtlemfkimffoiiaaGreatDoor
open Go Go.ChangeShapes Go.WideShapes Go.RowKit Go.Ideal Go.Ideal.Tryz
theorem c2g:(Tryz.f3.params.toList.all fun t=>Tryz.prog.readableRec t&&decide (t < Tryz.prog.types.size))=true:=by kernel_rfl
theorem c2m:Tryz.f3.resultTypes=#[4]:=by kernel_rfl
noncomputable abbrev c73:List (String×DataW Unit):=Rows.denWeightsRow.laid.filter fun x=>x.2.handleName?.isNone
theorem b7c:(Rows.denWeightsRow.laid.filter fun x=>x.2.handleName?.isSome)=[hX]:=by kernel_rfl
theorem c8e:d5j c73=true:=by kernel_rfl
theorem b1n (os:Os) (args:Array Value):laidMetH Tryz.prog Rows.denWeightsRow.laid ((a7y os).forCall (fun _ _=>0) ⟨#[],args,[]⟩).memory:=
 laidMetH_of_parts (laidMet_of_run' 8 (by kernel_rfl) (by kernel_rfl)) (by kernel_rfl)
theorem c8d {W:World} (h:laidMetH Tryz.prog Rows.denWeightsRow.laid W):∃ (G:GG) (bk:Nat->Nat×Nat),Sent G bk/\Around G bk/\∀ g v,G.at g v->GC G W g v/\g < W.heap.size:=by
 unfold laidMetH at h
 rw [b7c] at h
 obtain ⟨G,bk,h0,h1,h2⟩:=b2l (hs:=[(21,hV)]) h.1 c8e (fun p hp=>by
  obtain rfl:=List.mem_singleton.1 hp
  exact a84 h.2)
 exact ⟨G,bk,h1,b8s h0,h2⟩
set_option maxRecDepth 100000 in
theorem a4d (os:Os) (started:os.Started) (H:Type) (enc:TypeId×Value->H) :
  ReturnsInHanded {} Tryz.checked os 3 .any (fun w args=>(Rows.denWeightsSpec.pre enc Tryz.prog Tryz.f3 [] false w args/\laidMetH Tryz.prog Rows.denWeightsRow.laid w)/\sizedMet enc Tryz.prog Tryz.f3 (OpenSpec.ofChange Rows.denWeightsSpec) false w args)
   (Rows.denWeightsSpec.post enc Tryz.prog Tryz.f3 false true false false):=by
 refine returnsInHanded_of_change_and (C:=Tryz.checked) (X:=fun w _=>laidMetH Tryz.prog Rows.denWeightsRow.laid w) (fun _ _ _ hh h=>h.of_heap hh) own started (by kernel_rfl) Tryz.func3
  (ChangeSpec.witness_shaped (enc:=enc) (C:=Tryz.checked) (os:=os) (X:=fun w _=>laidMetH Tryz.prog Rows.denWeightsRow.laid w) false (a7y os) #[.slice none 0 0,.int .i64 0,.int .i64 0] 8 rfl (b33 os _) (by kernel_rfl) (by kernel_rfl) (by kernel_rfl) (b1n os _)) ?_
 intro W base args ds gs before hval0 hW _ hwt hL _
 have hval:∀ (j:Nat) t v,Tryz.f3.params[j]? =some t->args[j]? =some v->Value.okWide Tryz.prog W .any base t v:=hval0
 have hW':=hW
 obtain ⟨p,q,hA0,hV0,rfl,hfz,hnd⟩:=hW
 have hA:DataW.TrodAll enc Tryz.prog W 0 (fun _=>true) true Tryz.f3.params.toList args.toList ds p:=hA0
 rw [Tryz.params3] at hA hval
 obtain ⟨v0,v1,v2,d0,d1,d2,p0,p1,p2,rfl,rfl,rfl,h0,h1,h2⟩:=trodAll_three hA
 obtain ⟨a0',l0',c0',rfl⟩:=okWide_slice (show Tryz.prog.underlying 22=some (.slice 3) by kernel_rfl) (hval 0 22 v0 rfl rfl)
 obtain ⟨a1,rfl,rfl,rfl,q1⟩:=open_int Tryz.underlying3 (hval 1 3 v1 rfl rfl) h1
 obtain ⟨a2,rfl,rfl,rfl,q2⟩:=open_int Tryz.underlying3 (hval 2 3 v2 rfl rfl) h2
 obtain ⟨rfl,rfl⟩:=trodVars_none (show DataW.TrodVars enc Tryz.prog W (fun _=>true) [] gs q from hV0)
 obtain ⟨fuel0,h0⟩:=h0
 have hww:((d0.weights Tryz.checked.prog 22).all (· <=reachBytes)&&(((DataW.lit (H:=H) (Lit.int IntKind.i64 a1)).weights Tryz.checked.prog 3).all (· <=reachBytes)&&((DataW.lit (H:=H) (Lit.int IntKind.i64 a2)).weights Tryz.checked.prog 3).all (· <=reachBytes)))=true:=by
  have:=hwt
  rw [Tryz.params3] at this
  simpa [DataW.weightsEach,Rows.denWeightsSpec,ChangeSpec.plain] using this
 simp only [Bool.and_eq_true] at hww
 obtain ⟨a0,q0,r0,c0⟩:=d2w (e:=enc) (w:=W) fuel0 _ d0 p0 h0 hww.1
 obtain ⟨G,bk,hS,hAr,hG⟩:=c8d hL
 refine (b9h (b3r (G:=G) hS hAr a0 a1 a2) rfl hG (fun i av hi=> ?_)).mono fun e W' ⟨he,hb⟩=> ?_
 ·rcases i with _ | _ | _ | i
  ·simp at hi; subst hi; obtain ⟨v,hv,hr⟩:=b5k r0; simp [Value.cells] at hv; subst hv; exact hr
  ·simp at hi; subst hi; simp [R]
  ·simp at hi; subst hi; simp [R]
  ·simp at hi
 ·subst he
  refine ⟨_,rfl,c3k c7c (fun t ht=> ?_) c2m Tryz.underlying4 rfl rfl hW' hb⟩
  have h:=List.all_eq_true.1 c2g t ht
  simp only [Bool.and_eq_true,decide_eq_true_eq] at h
  exact h
theorem a55:Rows.DenWeightsSaid:=
 OpenClaim.holds_of_wide 3 Tryz.f3 rfl rfl rfl rfl rfl rfl rfl ⟨rfl,rfl,rfl,rfl,rfl⟩ rfl rfl rfl rfl rfl (by kernel_rfl) Tryz.func3 (by kernel_rfl)
  (of_decide_eq_true (by kernel_rfl)) (by unfold Func.isWrapper; rw [if_neg (of_decide_eq_false (by kernel_rfl))]; exact ⟨rfl,rfl⟩)
  (fun os started H enc _=>a4d os started H enc)
theorem denWeights_holds:Rows.DenWeightsCardSaid:=
 Claim7.holds_tied_plain_at .later [] [.handle, .sentinel, .sentinel, .sentinel, .sentinel, .sentinel, .sentinel, .sentinel, .sentinel, .sentinel, .sentinel, .sentinel, .sentinel, .sentinel, .sentinel, .sentinel, .sentinel, .sentinel, .sentinel, .sentinel, .sentinel, .sentinel] true (true, "4bd136d027bea8ccedbb106dc5ae0162fccca934ef665677313a576a20bba559") true
  a55 (fun _ h=>by cases h) (by kernel_rfl) (fun _ h=>by cases h) denWeights_row_tie rfl ⟨rfl,rfl⟩ (by kernel_rfl) rfl
  (fun f fn hf hfn=>by
   obtain rfl : f = 3 := Option.some.inj ((show Tryz.prog.funcNamed "lodge/lodgelaw19.DenWeights" = some 3 by kernel_rfl).symm.trans hf) |>.symm
   obtain rfl:fn=Tryz.f3:=(Option.some.inj (Tryz.func3.symm.trans hfn)).symm
   exact ⟨by kernel_rfl,fun j t ht=>by
    rw [Tryz.params3] at ht
    have h3:t=3\/t=22:=by
     rcases j with _ | _ | _ | j
     ·exact .inr ((by simpa using ht.symm))
     ·exact .inl (by simpa using ht.symm)
     ·exact .inl (by simpa using ht.symm)
     ·simp at ht
    rcases h3 with rfl | rfl
    ·exact (show Tryz.prog.wantsStandIn 3=false by kernel_rfl)
    ·exact (show Tryz.prog.wantsStandIn 22=false by kernel_rfl)⟩)
  (by kernel_rfl)
#print axioms denWeights_holds
end Go.Proofs.YtlemfkimffoiiaaGreatDoor
end
