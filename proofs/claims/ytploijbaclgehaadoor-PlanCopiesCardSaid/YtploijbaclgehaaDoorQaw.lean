/- Part Qaw of the proof: walks on a machine that is proved sound. -/
import Derived.Test.YtploijbaclgehaaDoorQag
import Derived.Test.YtploijbaclgehaaDoorQau
import Derived.Test.YtploijbaclgehaaDoorTie
import Derived.Test.YtploijbaclgehaaDoorCards
import Derived.SevenTiedAt
import Derived.Carry
set_option linter.unusedVariables false
set_option linter.unusedSimpArgs false
section
namespace Go.Proofs.YtploijbaclgehaaDoor
open Go Go.ChangeShapes Go.WideShapes Go.RowKit Go.Ideal Go.Ideal.Tryd
theorem b7d:(Tryd.f3.params.toList.all fun t=>Tryd.prog.readableRec t&&decide (t < Tryd.prog.types.size))=true:=by kernel_rfl
theorem b7i:Tryd.f3.resultTypes=#[4]:=by kernel_rfl
theorem a53:(Rows.planCopiesRow.laid.all fun x=>x.2.handleName?.isNone)=true:=by kernel_rfl
theorem c1h:b5s [] Rows.planCopiesRow.laid=true:=by kernel_rfl
theorem a9m (os:Os) (args:Array Value):laidMetH Tryd.prog Rows.planCopiesRow.laid ((a69 os).forCall (fun _ _=>0) ⟨#[],args,[]⟩).memory:=by
 rw [MakeChecks.laidMetH_plain _ _ _ a53]; exact laidMet_of_run' 8 (by kernel_rfl) (by kernel_rfl)
theorem c1g {W:World} (h:laidMetH Tryd.prog Rows.planCopiesRow.laid W):∃ (G:GG) (bk:Nat->Nat×Nat),c12 G bk/\∀ g v,G.at g v->GC G W g v/\g < W.heap.size:=by
 rw [MakeChecks.laidMetH_plain _ _ _ a53] at h
 obtain ⟨G,bk,_,h1,h2⟩:=a9c (hs:=[]) h c1h (fun p hp=>by cases hp)
 exact ⟨G,bk,h1,h2⟩
set_option maxRecDepth 100000 in
theorem a3t (os:Os) (started:os.Started) (H:Type) (enc:TypeId×Value->H) :
  ReturnsInHanded {} Tryd.checked os 3 .any (fun w args=>(Rows.planCopiesSpec.pre enc Tryd.prog Tryd.f3 [] false w args/\laidMetH Tryd.prog Rows.planCopiesRow.laid w)/\sizedMet enc Tryd.prog Tryd.f3 (OpenSpec.ofChange Rows.planCopiesSpec) false w args)
   (Rows.planCopiesSpec.post enc Tryd.prog Tryd.f3 false true false false):=by
 refine returnsInHanded_of_change_and (C:=Tryd.checked) (X:=fun w _=>laidMetH Tryd.prog Rows.planCopiesRow.laid w) (fun _ _ _ hh h=>h.of_heap hh) own started (by kernel_rfl) Tryd.func3
  (ChangeSpec.witness_shaped (enc:=enc) (C:=Tryd.checked) (os:=os) (X:=fun w _=>laidMetH Tryd.prog Rows.planCopiesRow.laid w) false (a69 os) #[.agg #[.int .i64 0,.slice none 0 0,.slice none 0 0,.slice none 0 0,.slice none 0 0,.int .i64 0,.int .i64 0],.int .i64 0,.int .i64 0] 8 rfl (b0u os _) (by kernel_rfl) (by kernel_rfl) (by kernel_rfl) (a9m os _)) ?_
 intro W base args ds gs before hval0 hW _ hwt hL _
 have hval:∀ (j:Nat) t v,Tryd.f3.params[j]? =some t->args[j]? =some v->Value.okWide Tryd.prog W .any base t v:=hval0
 have hW':=hW
 obtain ⟨p,q,hA0,hV0,rfl,hfz,hnd⟩:=hW
 have hA:DataW.TrodAll enc Tryd.prog W 0 (fun _=>true) true Tryd.f3.params.toList args.toList ds p:=hA0
 rw [Tryd.params3] at hA hval
 obtain ⟨v0,v1,v2,d0,d1,d2,p0,p1,p2,rfl,rfl,rfl,h0,h1,h2⟩:=trodAll_three hA
 have hok0:=hval 0 27 v0 rfl rfl
 obtain ⟨a1,rfl,rfl,rfl,q1⟩:=open_int Tryd.underlying3 (hval 1 3 v1 rfl rfl) h1
 obtain ⟨a2,rfl,rfl,rfl,q2⟩:=open_int Tryd.underlying3 (hval 2 3 v2 rfl rfl) h2
 obtain ⟨rfl,rfl⟩:=trodVars_none (show DataW.TrodVars enc Tryd.prog W (fun _=>true) [] gs q from hV0)
 obtain ⟨fuel0,h0⟩:=h0
 have hww:((d0.weights Tryd.checked.prog 27).all (· <=reachBytes)&&(((DataW.lit (H:=H) (Lit.int IntKind.i64 a1)).weights Tryd.checked.prog 3).all (· <=reachBytes)&&((DataW.lit (H:=H) (Lit.int IntKind.i64 a2)).weights Tryd.checked.prog 3).all (· <=reachBytes)))=true:=by
  have:=hwt
  rw [Tryd.params3] at this
  simpa [DataW.weightsEach,Rows.planCopiesSpec,ChangeSpec.plain] using this
 simp only [Bool.and_eq_true] at hww
 obtain ⟨a0,q0,r0,c0⟩:=c4c (e:=enc) (w:=W) fuel0 _ d0 p0 h0 hww.1
 obtain ⟨G,bk,hS,hG⟩:=c1g hL
 refine (b45 (b04 (G:=G) hS a0 q0 a1 a2) rfl hG (fun i av hi=> ?_)).mono fun e W' ⟨he,hb⟩=> ?_
 ·rcases i with _ | _ | _ | i
  ·simp at hi; subst hi; exact b7w b7p hok0 r0 c0
  ·simp at hi; subst hi; simp [R]
  ·simp at hi; subst hi; simp [R]
  ·simp at hi
 ·subst he
  refine ⟨_,rfl,b79 c0t (fun t ht=> ?_) b7i Tryd.underlying4 rfl rfl hW' hb⟩
  have h:=List.all_eq_true.1 b7d t ht
  simp only [Bool.and_eq_true,decide_eq_true_eq] at h
  exact h
theorem a5s:Rows.PlanCopiesSaid:=
 OpenClaim.holds_of_wide 3 Tryd.f3 rfl rfl rfl rfl rfl rfl rfl ⟨rfl,rfl,rfl,rfl,rfl⟩ rfl rfl rfl rfl rfl (by kernel_rfl) Tryd.func3 (by kernel_rfl)
  (of_decide_eq_true (by kernel_rfl)) (by unfold Func.isWrapper; rw [if_neg (of_decide_eq_false (by kernel_rfl))]; exact ⟨rfl,rfl⟩)
  (fun os started H enc _=>a3t os started H enc)
theorem planCopies_holds:Rows.PlanCopiesCardSaid:=
 Claim7.holds_tied_plain_at .later [] [.sentinel, .sentinel, .sentinel] true (true, "840a378206cb977368c7765a303fe499439375cf92ab7180109b9469615d36f8") true
  a5s (fun _ h=>by cases h) (by kernel_rfl) (fun _ h=>by cases h) planCopies_row_tie rfl ⟨rfl,rfl⟩ (by kernel_rfl) rfl
  (fun f fn hf hfn=>by
   obtain rfl : f = 3 := Option.some.inj ((show Tryd.prog.funcNamed "lodge/lodgelaw14.PlanCopies" = some 3 by kernel_rfl).symm.trans hf) |>.symm
   obtain rfl:fn=Tryd.f3:=(Option.some.inj (Tryd.func3.symm.trans hfn)).symm
   exact ⟨by kernel_rfl,fun j t ht=>by
    rw [Tryd.params3] at ht
    have h3:t=3\/t=27:=by
     rcases j with _ | _ | _ | j
     ·exact .inr ((by simpa using ht.symm))
     ·exact .inl (by simpa using ht.symm)
     ·exact .inl (by simpa using ht.symm)
     ·simp at ht
    rcases h3 with rfl | rfl
    ·exact (show Tryd.prog.wantsStandIn 3=false by kernel_rfl)
    ·exact (show Tryd.prog.wantsStandIn 27=false by kernel_rfl)⟩)
  (by kernel_rfl)
#print axioms planCopies_holds
end Go.Proofs.YtploijbaclgehaaDoor
end
