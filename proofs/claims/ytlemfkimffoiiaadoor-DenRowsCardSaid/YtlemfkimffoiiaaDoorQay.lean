/- Part Qay of the proof: walks on a machine that is proved sound. -/
import Derived.Test.YtlemfkimffoiiaaDoorQau
import Derived.Test.YtlemfkimffoiiaaDoorQaw
import Derived.Test.YtlemfkimffoiiaaDoorTie
import Derived.Test.YtlemfkimffoiiaaDoorCards
import Derived.SevenTiedAt
import Derived.Carry
set_option linter.unusedVariables false
set_option linter.unusedSimpArgs false
section
namespace Go.Proofs.YtlemfkimffoiiaaDoor
open Go Go.ChangeShapes Go.WideShapes Go.RowKit Go.Ideal Go.Ideal.Tryd
theorem c0t:(Tryd.f3.params.toList.all fun t=>Tryd.prog.readableRec t&&decide (t < Tryd.prog.types.size))=true:=by kernel_rfl
theorem c0z:Tryd.f3.resultTypes=#[4]:=by kernel_rfl
noncomputable abbrev c53:List (String×DataW Unit):=Rows.denRowsRow.laid.filter fun x=>x.2.handleName?.isNone
theorem b5u:(Rows.denRowsRow.laid.filter fun x=>x.2.handleName?.isSome)=[hX]:=by kernel_rfl
theorem c6e:b8q [0,1,2,3,4,5] c53=true:=by kernel_rfl
theorem b0i (os:Os) (args:Array Value):laidMetH Tryd.prog Rows.denRowsRow.laid ((a7i os).forCall (fun _ _=>0) ⟨#[],args,[]⟩).memory:=
 laidMetH_of_parts (laidMet_of_run' 8 (by kernel_rfl) (by kernel_rfl)) (by kernel_rfl)
theorem c6d {W:World} (h:laidMetH Tryd.prog Rows.denRowsRow.laid W):∃ (G:GG) (bk:Nat->Nat×Nat),SentO G bk/\Around G bk/\∀ g v,G.at g v->GC G W g v/\g < W.heap.size:=by
 unfold laidMetH at h
 rw [b5u] at h
 obtain ⟨G,bk,h0,h1,h2⟩:=a90 (hs:=[(6,hV)]) h.1 c6e (fun p hp=>by
  obtain rfl:=List.mem_singleton.1 hp
  exact a8e h.2)
 exact ⟨G,bk,h1,b69 h0,h2⟩
set_option maxRecDepth 100000 in
theorem a5x (os:Os) (started:os.Started) (H:Type) (enc:TypeId×Value->H) :
  ReturnsInHanded {} Tryd.checked os 3 .any (fun w args=>(Rows.denRowsSpec.pre enc Tryd.prog Tryd.f3 [] false w args/\laidMetH Tryd.prog Rows.denRowsRow.laid w)/\sizedMet enc Tryd.prog Tryd.f3 (OpenSpec.ofChange Rows.denRowsSpec) false w args)
   (Rows.denRowsSpec.post enc Tryd.prog Tryd.f3 false true false false):=by
 refine returnsInHanded_of_change_and (C:=Tryd.checked) (X:=fun w _=>laidMetH Tryd.prog Rows.denRowsRow.laid w) (fun _ _ _ hh h=>h.of_heap hh) own started (by kernel_rfl) Tryd.func3
  (ChangeSpec.witness_shaped (enc:=enc) (C:=Tryd.checked) (os:=os) (X:=fun w _=>laidMetH Tryd.prog Rows.denRowsRow.laid w) false (a7i os) #[.int .i64 0,.slice none 0 0,.int .i64 0] 8 rfl (b2j os _) (by kernel_rfl) (by kernel_rfl) (by kernel_rfl) (b0i os _)) ?_
 intro W base args ds gs before hval0 hW _ hwt hL _
 have hval:∀ (j:Nat) t v,Tryd.f3.params[j]? =some t->args[j]? =some v->Value.okWide Tryd.prog W .any base t v:=hval0
 have hW':=hW
 obtain ⟨p,q,hA0,hV0,rfl,hfz,hnd⟩:=hW
 have hA:DataW.TrodAll enc Tryd.prog W 0 (fun _=>true) true Tryd.f3.params.toList args.toList ds p:=hA0
 rw [Tryd.params3] at hA hval
 obtain ⟨v0,v1,v2,d0,d1,d2,p0,p1,p2,rfl,rfl,rfl,h0,h1,h2⟩:=trodAll_three hA
 obtain ⟨a0,rfl,rfl,rfl,q0⟩:=open_int Tryd.underlying3 (hval 0 3 v0 rfl rfl) h0
 obtain ⟨a1',l1',c1',rfl⟩:=okWide_slice (show Tryd.prog.underlying 22=some (.slice 3) by kernel_rfl) (hval 1 22 v1 rfl rfl)
 obtain ⟨a2,rfl,rfl,rfl,q2⟩:=open_int Tryd.underlying3 (hval 2 3 v2 rfl rfl) h2
 obtain ⟨rfl,rfl⟩:=trodVars_none (show DataW.TrodVars enc Tryd.prog W (fun _=>true) [] gs q from hV0)
 obtain ⟨fuel1,h1⟩:=h1
 have hww:(((DataW.lit (H:=H) (Lit.int IntKind.i64 a0)).weights Tryd.checked.prog 3).all (· <=reachBytes)&&((d1.weights Tryd.checked.prog 22).all (· <=reachBytes)&&((DataW.lit (H:=H) (Lit.int IntKind.i64 a2)).weights Tryd.checked.prog 3).all (· <=reachBytes)))=true:=by
  have:=hwt
  rw [Tryd.params3] at this
  simpa [DataW.weightsEach,Rows.denRowsSpec,ChangeSpec.plain] using this
 simp only [Bool.and_eq_true] at hww
 obtain ⟨a1,q1,r1,c1⟩:=d0p (e:=enc) (w:=W) fuel1 _ d1 p1 h1 hww.2.1
 obtain ⟨G,bk,hS,hAr,hG⟩:=c6d hL
 refine (b7z (c1j (G:=G) hS hAr a0 a1 a2) rfl hG (fun i av hi=> ?_)).mono fun e W' ⟨he,hb⟩=> ?_
 ·rcases i with _ | _ | _ | i
  ·simp at hi; subst hi; simp [R]
  ·simp at hi; subst hi; obtain ⟨v,hv,hr⟩:=b3z r1; simp [Value.cells] at hv; subst hv; exact hr
  ·simp at hi; subst hi; simp [R]
  ·simp at hi
 ·subst he
  refine ⟨_,rfl,c1w c5e (fun t ht=> ?_) c0z Tryd.underlying4 rfl rfl hW' hb⟩
  have h:=List.all_eq_true.1 c0t t ht
  simp only [Bool.and_eq_true,decide_eq_true_eq] at h
  exact h
theorem a8r:Rows.DenRowsSaid:=
 OpenClaim.holds_of_wide 3 Tryd.f3 rfl rfl rfl rfl rfl rfl rfl ⟨rfl,rfl,rfl,rfl,rfl⟩ rfl rfl rfl rfl rfl (by kernel_rfl) Tryd.func3 (by kernel_rfl)
  (of_decide_eq_true (by kernel_rfl)) (by unfold Func.isWrapper; rw [if_neg (of_decide_eq_false (by kernel_rfl))]; exact ⟨rfl,rfl⟩)
  (fun os started H enc _=>a5x os started H enc)
theorem denRows_holds:Rows.DenRowsCardSaid:=
 Claim7.holds_tied_plain_at .later [] [.handle, .sentinel, .sentinel, .sentinel, .sentinel, .sentinel, .sentinel] true (true, "0db7e9fea3b15e792114e36cf31130a2c9d678d792d8ebd6a2b3be137b07dd05") true
  a8r (fun _ h=>by cases h) (by kernel_rfl) (fun _ h=>by cases h) denRows_row_tie rfl ⟨rfl,rfl⟩ (by kernel_rfl) rfl
  (fun f fn hf hfn=>by
   obtain rfl : f = 3 := Option.some.inj ((show Tryd.prog.funcNamed "lodge/lodgelaw19.DenRows" = some 3 by kernel_rfl).symm.trans hf) |>.symm
   obtain rfl:fn=Tryd.f3:=(Option.some.inj (Tryd.func3.symm.trans hfn)).symm
   exact ⟨by kernel_rfl,fun j t ht=>by
    rw [Tryd.params3] at ht
    have h3:t=3\/t=22:=by
     rcases j with _ | _ | _ | j
     ·exact .inl (by simpa using ht.symm)
     ·exact .inr ((by simpa using ht.symm))
     ·exact .inl (by simpa using ht.symm)
     ·simp at ht
    rcases h3 with rfl | rfl
    ·exact (show Tryd.prog.wantsStandIn 3=false by kernel_rfl)
    ·exact (show Tryd.prog.wantsStandIn 22=false by kernel_rfl)⟩)
  (by kernel_rfl)
#print axioms denRows_holds
end Go.Proofs.YtlemfkimffoiiaaDoor
end
