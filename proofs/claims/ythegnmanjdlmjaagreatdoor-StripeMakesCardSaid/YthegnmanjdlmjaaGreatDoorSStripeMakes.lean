/- StripeMakes: the given statement, proved. -/
import Derived.Test.YthegnmanjdlmjaaGreatDoorS07
import Derived.Test.YthegnmanjdlmjaaGreatDoorS15
set_option linter.unusedSimpArgs false
set_option linter.unusedVariables false
namespace Go.Proofs.YthegnmanjdlmjaaGreatDoor
open Go.Sh Go.RowKit Go.ChangeShapes Go.WideShapes Go.ChangeAt
namespace StripeMakes
set_option maxRecDepth 100000 in
theorem contract (H:Type) (enc:TypeId × Value→H) (W:World) (base:Nat) (args:Array Value) (ds gs:List (DataW H)) (before:List MemPlace)
  (hval:∀ (j:Nat) t v,Tryz.f8.params[j]? = some t→args[j]? = some v→Value.okWide Tryz.prog W .any base t v)
  (hW:DataW.Whole enc Tryz.prog Tryz.f8.params.toList Rows.stripeMakesSpec.vars false W args.toList ds gs before) (hL:laidMetH Tryz.prog Rows.stripeMakesRow.laid W):
  Calls Tryz.prog 8 args W fun e W'=>∃ v,e = .returned v∧Rows.stripeMakesSpec.post enc Tryz.prog Tryz.f8 false true false false W args v W':=by
 have hW':=hW
 obtain ⟨p,q,hA0,hV,rfl,hfz,hnd⟩:=hW
 have hA:DataW.TrodAll enc Tryz.prog W 0 (fun _=>true) true Tryz.f8.params.toList args.toList ds p:=hA0
 rw [Tryz.params8] at hA hval
 obtain ⟨v0,v1,v2,d0,d1,d2,p0,p1,p2,rfl,rfl,rfl,h0,h1,h2⟩:=trodAll_three hA
 obtain ⟨n0,rfl⟩:=okWide_int_is (hval 0 3 _ rfl rfl)
 obtain ⟨fuel1,h1⟩:=h1
 obtain ⟨a1,l1,c1,ms1,hv1,hl1,hm1,hs1⟩:=bytes19 (In_of_trod h1)
 obtain ⟨a1',l1',c1',rfl⟩:=okWide_slice Tryz.underlying29 (hval 1 29 _ rfl rfl)
 obtain ⟨rfl,rfl,rfl⟩:a1'=a1∧l1'=l1∧c1'=c1:=by simpa [Value.cells] using hv1
 obtain ⟨fuel2,h2⟩:=h2
 obtain ⟨a2,l2,c2,ms2,hv2,hl2,hm2,hs2⟩:=texts19 (In_of_trod h2)
 obtain ⟨a2',l2',c2',rfl⟩:=okWide_slice Tryz.underlying28 (hval 2 28 _ rfl rfl)
 obtain ⟨rfl,rfl,rfl⟩:a2'=a2∧l2'=l2∧c2'=c2:=by simpa [Value.cells] using hv2
 have key:law19_StripeMakes.W #[.int .i64 n0,.slice a1' l1' c1',.slice a2' l2' c2'] (fun v h'=>v = .bool true∧Keep (hp W) h') (hp W):=by
  rw [law19_StripeMakes.W_eq]
  exact stripeMakes (h:=hp W) hs1 hm1 hs2 hl2 (laid_tabs19 hL) fun h' k=>⟨rfl,k⟩
 refine (FnGood.calls law19_StripeMakes.good Tryz.call8 key).mono fun e W' h=>?_
 obtain ⟨v,rfl,⟨rfl,k⟩,st⟩:=h
 exact ⟨_,rfl,post_true Tryz.laidOut (by decide +kernel) rfl rfl rfl rfl rfl Tryz.underlying4 hW' (k.below st)⟩
theorem laid_met (os:Os):laidMet Tryz.prog Rows.stripeMakesRow.laid ((laidWorld19 os).forCall (fun _ _=>0) ⟨#[],#[.int .i64 0,.slice none 0 0,.slice none 0 0],[]⟩).memory:=
 laidMet_of_run' 8 (by kernel_rfl) (by kernel_rfl)
theorem reads (os:Os) {H:Type} (enc:TypeId × Value→H):∃ places,DataW.whole enc Tryz.prog ((laidWorld19 os).forCall (fun _ _=>0) ⟨#[],#[.int .i64 0,.slice none 0 0,.slice none 0 0],[]⟩).memory Tryz.f8.params.toList Rows.stripeMakesSpec.vars false (#[.int .i64 0,.slice none 0 0,.slice none 0 0]:Array Value).toList 8=some ([.lit (.int .i64 0),.nil,.nil],[],places):=
 ⟨[],by kernel_rfl⟩
set_option maxRecDepth 100000 in
theorem lifted (os:Os) (started:os.Started) (H:Type) (enc:TypeId × Value→H) (F:Stop.Interp):
  ReturnsInHanded {} Tryz.checked os 8 .any ((OpenSpec.ofChange Rows.stripeMakesSpec).preRow enc Tryz.prog Tryz.f8 Rows.stripeMakesRow.domain false Rows.stripeMakesRow.laid) (((OpenSpec.ofChange Rows.stripeMakesSpec).at F).post enc Tryz.prog Tryz.f8 false true false false):=by
 obtain ⟨places,hx⟩:=reads os enc
 refine returnsInHanded_of_row (C:=Tryz.checked) (s:=OpenSpec.ofChange Rows.stripeMakesSpec) Tryz.own started (by kernel_rfl) Tryz.func8
  (witness_row_at (enc:=enc) (C:=Tryz.checked) false (laidWorld19 os) #[.int .i64 0,.slice none 0 0,.slice none 0 0] rfl (by kernel_rfl) (by kernel_rfl) (by kernel_rfl)
   (OpenSpec.preRow_of_cond 8 hx (by kernel_rfl) (fun k hk=>by cases hk) (by kernel_rfl) (laid_met os))) ?_
 intro W base args ds gs before hval hW _ _ _ hL _ _
 exact contract H enc W base args ds gs before hval hW hL
theorem k1:Rows.stripeMakesRow.wf (OpenSpec.ofChange Rows.stripeMakesSpec)=true:=by kernel_rfl
theorem k4:Tryz.f8.params.all (Tryz.prog.readableRec ·)=true:=by kernel_rfl
theorem k5:namedTie Tryz.prog Rows.stripeMakesRow.named Rows.stripeMakesSpec.vars=true:=by kernel_rfl
theorem k6:(Rows.stripeMakesRow.stops == [])=true:=by kernel_rfl
theorem k8:(Rows.stripeMakesRow.knobs == [])=true:=by kernel_rfl
theorem k10:(Rows.stripeMakesRow.inPlace == Tryz.prog.inPlace 8)=true:=by kernel_rfl
theorem k11:(Rows.stripeMakesRow.unfollowed == Tryz.prog.unfollowed 8)=true:=by kernel_rfl
theorem k12:(Rows.stripeMakesRow.recurses == Tryz.prog.recurses 8)=true:=by kernel_rfl
theorem k13:(Rows.stripeMakesRow.named == Tryz.prog.varsNamed 8)=true:=by kernel_rfl
theorem k14:(Rows.stripeMakesRow.maps == (Tryz.f8.params.toList++Rows.stripeMakesSpec.plain.varTypes Tryz.prog).any (Tryz.prog.mapsRec ·))=true:=by kernel_rfl
theorem k15:(Rows.stripeMakesRow.ifaces == (Tryz.f8.params.toList++Rows.stripeMakesSpec.plain.varTypes Tryz.prog).any (Tryz.prog.ifacesRec ·))=true:=by kernel_rfl
theorem k16:(Rows.stripeMakesRow.mapsOut == Tryz.prog.mapsAmong Tryz.f8.resultTypes.toList)=true:=by kernel_rfl
theorem k17:(Rows.stripeMakesRow.loops == (Tryz.f8.params.toList++Rows.stripeMakesSpec.plain.varTypes Tryz.prog).any (Tryz.prog.loopsFrom ·))=true:=by kernel_rfl
theorem k17b:(Rows.stripeMakesRow.wideKeys == (Tryz.f8.params.toList++Rows.stripeMakesSpec.plain.varTypes Tryz.prog++Tryz.f8.resultTypes.toList).any (Tryz.prog.wideKeysFrom ·))=true:=by kernel_rfl
theorem k18:Rows.stripeMakesSpec.vars.all (Tryz.prog.varReadable ·)=true:=by kernel_rfl
theorem k19:Tryz.f8.resultTypes.all (fun t=>Tryz.prog.readableRec t && decide (t<Tryz.prog.types.size))=true:=by kernel_rfl
theorem k20:(Rows.stripeMakesRow.ifacesOut == Tryz.f8.resultTypes.toList.any (Tryz.prog.ifacesRec ·))=true:=by kernel_rfl
theorem k21:(Rows.stripeMakesRow.loopsOut == Tryz.f8.resultTypes.toList.any (Tryz.prog.loopsFrom ·))=true:=by kernel_rfl
theorem k23:Rows.stripeMakesRow.shortTexts.isNone=true:=by kernel_rfl
theorem k25:(Rows.stripeMakesRow.kinds == (if Rows.stripeMakesRow.domain.isEmpty then [] else Tryz.f8.params.toList.map fun t=>match Tryz.prog.underlying t with | some (.int k)=>some k | _=>none))=true:=by kernel_rfl
theorem k26:(Rows.stripeMakesRow.pinned == Rows.stripeMakesRow.pinnedBy)=true:=by kernel_rfl
theorem k27:(Rows.stripeMakesRow.veiled == (Tryz.f8.params.toList++Rows.stripeMakesSpec.plain.varTypes Tryz.prog++Tryz.f8.resultTypes.toList).any (Tryz.prog.veiledRec ·))=true:=by kernel_rfl
theorem k28:Rows.stripeMakesRow.veiledFits Tryz.prog Tryz.f8.params.toList (Tryz.f8.params.toList++Rows.stripeMakesSpec.plain.varTypes Tryz.prog++Tryz.f8.resultTypes.toList)=true:=by kernel_rfl
set_option maxRecDepth 100000 in
theorem closed:joinedFacts Tryz.prog 8 Tryz.f8 Rows.stripeMakesSpec Rows.stripeMakesRow=true:=facts_of k1 k4 k5 k6 k8 k10 k11 k12 k13 k14 k15 k16 k17 k17b k18 k19 k20 k21 rfl k23 rfl rfl k25 k26 k27 k28
set_option maxRecDepth 100000 in
theorem said:Rows.StripeMakesSaid:=
 OpenClaim.holds_of_cond 8 Tryz.f8 rfl rfl rfl rfl rfl rfl rfl ⟨rfl,rfl,rfl,rfl,rfl⟩ rfl rfl rfl rfl rfl (by kernel_rfl) Tryz.func8 closed
  (of_decide_eq_true (by kernel_rfl)) (by unfold Func.isWrapper; first | (rw [if_pos (by decide +kernel)]; kernel_rfl) | (rw [if_neg (by decide +kernel)]; exact ⟨rfl,rfl⟩))
  (fun os started H enc _ F=>by rw [OpenClaim.pre_eq_preRow]; exact lifted os started H enc F)
theorem plain (f:FuncId) (fn:Func) (hf:Tryz.pinned.checked.prog.funcNamed "cofferdam/cofferdamlaw19.StripeMakes" = some f) (hfn:Tryz.pinned.checked.prog.funcs[f]? = some fn):
  false=Tryz.pinned.checked.prog.looks []∧∀ (j:Nat) t,fn.params[j]? = some t→Tryz.pinned.checked.prog.wantsStandIn t=false:=by
 obtain rfl:f=8:=Option.some.inj ((show Tryz.prog.funcNamed "cofferdam/cofferdamlaw19.StripeMakes" = some 8 by kernel_rfl).symm.trans hf) |>.symm
 obtain rfl:fn=Tryz.f8:=(Option.some.inj (Tryz.func8.symm.trans hfn)).symm
 refine ⟨by kernel_rfl,fun j t ht=>?_⟩
 rw [Tryz.params8] at ht
 have hm:t ∈ [3,29,28]:=by simpa using Array.mem_of_getElem? ht
 have hall:([3,29,28].all fun u=>!Tryz.prog.wantsStandIn u)=true:=by kernel_rfl
 exact (show Tryz.prog.wantsStandIn t=false by simpa using List.all_eq_true.1 hall t hm)
end StripeMakes
theorem stripeMakes_card:Rows.StripeMakesCardSaid:=
 Claim7.holds_tied_plain_at .later [] _ _ _ _ StripeMakes.said (fun _ h=>by cases h) (by kernel_rfl) (fun _ h=>by cases h) stripeMakes_row_tie rfl ⟨rfl,rfl⟩ (by kernel_rfl) rfl StripeMakes.plain (by kernel_rfl)
#print axioms stripeMakes_card
end Go.Proofs.YthegnmanjdlmjaaGreatDoor
