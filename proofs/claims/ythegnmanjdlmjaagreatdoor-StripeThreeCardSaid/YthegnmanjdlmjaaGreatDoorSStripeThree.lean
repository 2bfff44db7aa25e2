/- StripeThree: the given statement, proved. -/
import Derived.Test.YthegnmanjdlmjaaGreatDoorS07
import Derived.Test.YthegnmanjdlmjaaGreatDoorS15
import Derived.Test.YthegnmanjdlmjaaGreatDoorS14
set_option linter.unusedSimpArgs false
set_option linter.unusedVariables false
namespace Go.Proofs.YthegnmanjdlmjaaGreatDoor
open Go.Sh Go.RowKit Go.ChangeShapes Go.WideShapes Go.ChangeAt
namespace StripeThree
set_option maxRecDepth 100000 in
theorem contract (H:Type) (enc:TypeId × Value→H) (W:World) (base:Nat) (args:Array Value) (ds gs:List (DataW H)) (before:List MemPlace)
  (hval:∀ (j:Nat) t v,Tryz.f9.params[j]? = some t→args[j]? = some v→Value.okWide Tryz.prog W .any base t v)
  (hW:DataW.Whole enc Tryz.prog Tryz.f9.params.toList Rows.stripeThreeSpec.vars false W args.toList ds gs before) (hL:laidMetH Tryz.prog Rows.stripeThreeRow.laid W):
  Calls Tryz.prog 9 args W fun e W'=>∃ v,e = .returned v∧Rows.stripeThreeSpec.post enc Tryz.prog Tryz.f9 false true false false W args v W':=by
 have hW':=hW
 obtain ⟨p,q,hA0,hV,rfl,hfz,hnd⟩:=hW
 have hA:DataW.TrodAll enc Tryz.prog W 0 (fun _=>true) true Tryz.f9.params.toList args.toList ds p:=hA0
 rw [Tryz.params9] at hA hval
 obtain ⟨v0,v1,d0,d1,p0,p1,rfl,rfl,rfl,h0,h1⟩:=trodAll_two hA
 obtain ⟨fuel0,h0⟩:=h0
 obtain ⟨cs0,rfl⟩:=okWide_agg (P:=Tryz.prog) (by rw [Tryz.underlying78]; rfl) (hval 0 78 _ rfl rfl)
 obtain ⟨na0,nb0,nc0,nd0,en0⟩:=four_of (In_of_trod h0)
 obtain rfl:cs0 = #[.int .i64 na0,.int .i64 nb0,.int .i64 nc0,.int .i64 nd0]:=by rw [←Array.toList_inj]; exact en0
 obtain ⟨fuel1,h1⟩:=h1
 obtain ⟨a1,l1,c1,ms1,hv1,hl1,hm1,hs1⟩:=bytes19 (In_of_trod h1)
 obtain ⟨a1',l1',c1',rfl⟩:=okWide_slice Tryz.underlying29 (hval 1 29 _ rfl rfl)
 obtain ⟨rfl,rfl,rfl⟩:a1'=a1∧l1'=l1∧c1'=c1:=by simpa [Value.cells] using hv1
 have key:law19_StripeThree.W #[.agg #[.int .i64 na0,.int .i64 nb0,.int .i64 nc0,.int .i64 nd0],.slice a1' l1' c1'] (fun v h'=>v = .bool true∧Keep (hp W) h') (hp W):=by
  rw [law19_StripeThree.W_eq]
  exact stripeThree (h:=hp W) hs1 hm1 (laid_tabs19 hL) fun h' k=>⟨rfl,k⟩
 refine (FnGood.calls law19_StripeThree.good Tryz.call9 key).mono fun e W' h=>?_
 obtain ⟨v,rfl,⟨rfl,k⟩,st⟩:=h
 exact ⟨_,rfl,post_true Tryz.laidOut (by decide +kernel) rfl rfl rfl rfl rfl Tryz.underlying4 hW' (k.below st)⟩
theorem laid_met (os:Os):laidMet Tryz.prog Rows.stripeThreeRow.laid ((laidWorld19 os).forCall (fun _ _=>0) ⟨#[],#[.agg #[.int .i64 0,.int .i64 0,.int .i64 0,.int .i64 0],.slice none 0 0],[]⟩).memory:=
 laidMet_of_run' 8 (by kernel_rfl) (by kernel_rfl)
theorem reads (os:Os) {H:Type} (enc:TypeId × Value→H):∃ places,DataW.whole enc Tryz.prog ((laidWorld19 os).forCall (fun _ _=>0) ⟨#[],#[.agg #[.int .i64 0,.int .i64 0,.int .i64 0,.int .i64 0],.slice none 0 0],[]⟩).memory Tryz.f9.params.toList Rows.stripeThreeSpec.vars false (#[.agg #[.int .i64 0,.int .i64 0,.int .i64 0,.int .i64 0],.slice none 0 0]:Array Value).toList 8=some ([.agg [.lit (.int .i64 0),.lit (.int .i64 0),.lit (.int .i64 0),.lit (.int .i64 0)],.nil],[],places):=
 ⟨[],by kernel_rfl⟩
set_option maxRecDepth 100000 in
theorem lifted (os:Os) (started:os.Started) (H:Type) (enc:TypeId × Value→H) (F:Stop.Interp):
  ReturnsInHanded {} Tryz.checked os 9 .any ((OpenSpec.ofChange Rows.stripeThreeSpec).preRow enc Tryz.prog Tryz.f9 Rows.stripeThreeRow.domain false Rows.stripeThreeRow.laid) (((OpenSpec.ofChange Rows.stripeThreeSpec).at F).post enc Tryz.prog Tryz.f9 false true false false):=by
 obtain ⟨places,hx⟩:=reads os enc
 refine returnsInHanded_of_row (C:=Tryz.checked) (s:=OpenSpec.ofChange Rows.stripeThreeSpec) Tryz.own started (by kernel_rfl) Tryz.func9
  (witness_row_at (enc:=enc) (C:=Tryz.checked) false (laidWorld19 os) #[.agg #[.int .i64 0,.int .i64 0,.int .i64 0,.int .i64 0],.slice none 0 0] rfl (by kernel_rfl) (by kernel_rfl) (by kernel_rfl)
   (OpenSpec.preRow_of_cond 8 hx (by kernel_rfl) (fun k hk=>by cases hk) (by kernel_rfl) (laid_met os))) ?_
 intro W base args ds gs before hval hW _ _ _ hL _ _
 exact contract H enc W base args ds gs before hval hW hL
theorem k1:Rows.stripeThreeRow.wf (OpenSpec.ofChange Rows.stripeThreeSpec)=true:=by kernel_rfl
theorem k4:Tryz.f9.params.all (Tryz.prog.readableRec ·)=true:=by kernel_rfl
theorem k5:namedTie Tryz.prog Rows.stripeThreeRow.named Rows.stripeThreeSpec.vars=true:=by kernel_rfl
theorem k6:(Rows.stripeThreeRow.stops == [])=true:=by kernel_rfl
theorem k8:(Rows.stripeThreeRow.knobs == [])=true:=by kernel_rfl
theorem k10:(Rows.stripeThreeRow.inPlace == Tryz.prog.inPlace 9)=true:=by kernel_rfl
theorem k11:(Rows.stripeThreeRow.unfollowed == Tryz.prog.unfollowed 9)=true:=by kernel_rfl
theorem k12:(Rows.stripeThreeRow.recurses == Tryz.prog.recurses 9)=true:=by kernel_rfl
theorem k13:(Rows.stripeThreeRow.named == Tryz.prog.varsNamed 9)=true:=by kernel_rfl
theorem k14:(Rows.stripeThreeRow.maps == (Tryz.f9.params.toList++Rows.stripeThreeSpec.plain.varTypes Tryz.prog).any (Tryz.prog.mapsRec ·))=true:=by kernel_rfl
theorem k15:(Rows.stripeThreeRow.ifaces == (Tryz.f9.params.toList++Rows.stripeThreeSpec.plain.varTypes Tryz.prog).any (Tryz.prog.ifacesRec ·))=true:=by kernel_rfl
theorem k16:(Rows.stripeThreeRow.mapsOut == Tryz.prog.mapsAmong Tryz.f9.resultTypes.toList)=true:=by kernel_rfl
theorem k17:(Rows.stripeThreeRow.loops == (Tryz.f9.params.toList++Rows.stripeThreeSpec.plain.varTypes Tryz.prog).any (Tryz.prog.loopsFrom ·))=true:=by kernel_rfl
theorem k17b:(Rows.stripeThreeRow.wideKeys == (Tryz.f9.params.toList++Rows.stripeThreeSpec.plain.varTypes Tryz.prog++Tryz.f9.resultTypes.toList).any (Tryz.prog.wideKeysFrom ·))=true:=by kernel_rfl
theorem k18:Rows.stripeThreeSpec.vars.all (Tryz.prog.varReadable ·)=true:=by kernel_rfl
theorem k19:Tryz.f9.resultTypes.all (fun t=>Tryz.prog.readableRec t && decide (t<Tryz.prog.types.size))=true:=by kernel_rfl
theorem k20:(Rows.stripeThreeRow.ifacesOut == Tryz.f9.resultTypes.toList.any (Tryz.prog.ifacesRec ·))=true:=by kernel_rfl
theorem k21:(Rows.stripeThreeRow.loopsOut == Tryz.f9.resultTypes.toList.any (Tryz.prog.loopsFrom ·))=true:=by kernel_rfl
theorem k23:Rows.stripeThreeRow.shortTexts.isNone=true:=by kernel_rfl
theorem k25:(Rows.stripeThreeRow.kinds == (if Rows.stripeThreeRow.domain.isEmpty then [] else Tryz.f9.params.toList.map fun t=>match Tryz.prog.underlying t with | some (.int k)=>some k | _=>none))=true:=by kernel_rfl
theorem k26:(Rows.stripeThreeRow.pinned == Rows.stripeThreeRow.pinnedBy)=true:=by kernel_rfl
theorem k27:(Rows.stripeThreeRow.veiled == (Tryz.f9.params.toList++Rows.stripeThreeSpec.plain.varTypes Tryz.prog++Tryz.f9.resultTypes.toList).any (Tryz.prog.veiledRec ·))=true:=by kernel_rfl
theorem k28:Rows.stripeThreeRow.veiledFits Tryz.prog Tryz.f9.params.toList (Tryz.f9.params.toList++Rows.stripeThreeSpec.plain.varTypes Tryz.prog++Tryz.f9.resultTypes.toList)=true:=by kernel_rfl
set_option maxRecDepth 100000 in
theorem closed:joinedFacts Tryz.prog 9 Tryz.f9 Rows.stripeThreeSpec Rows.stripeThreeRow=true:=facts_of k1 k4 k5 k6 k8 k10 k11 k12 k13 k14 k15 k16 k17 k17b k18 k19 k20 k21 rfl k23 rfl rfl k25 k26 k27 k28
set_option maxRecDepth 100000 in
theorem said:Rows.StripeThreeSaid:=
 OpenClaim.holds_of_cond 9 Tryz.f9 rfl rfl rfl rfl rfl rfl rfl ⟨rfl,rfl,rfl,rfl,rfl⟩ rfl rfl rfl rfl rfl (by kernel_rfl) Tryz.func9 closed
  (of_decide_eq_true (by kernel_rfl)) (by unfold Func.isWrapper; first | (rw [if_pos (by decide +kernel)]; kernel_rfl) | (rw [if_neg (by decide +kernel)]; exact ⟨rfl,rfl⟩))
  (fun os started H enc _ F=>by rw [OpenClaim.pre_eq_preRow]; exact lifted os started H enc F)
theorem plain (f:FuncId) (fn:Func) (hf:Tryz.pinned.checked.prog.funcNamed "cofferdam/cofferdamlaw19.StripeThree" = some f) (hfn:Tryz.pinned.checked.prog.funcs[f]? = some fn):
  false=Tryz.pinned.checked.prog.looks []∧∀ (j:Nat) t,fn.params[j]? = some t→Tryz.pinned.checked.prog.wantsStandIn t=false:=by
 obtain rfl:f=9:=Option.some.inj ((show Tryz.prog.funcNamed "cofferdam/cofferdamlaw19.StripeThree" = some 9 by kernel_rfl).symm.trans hf) |>.symm
 obtain rfl:fn=Tryz.f9:=(Option.some.inj (Tryz.func9.symm.trans hfn)).symm
 refine ⟨by kernel_rfl,fun j t ht=>?_⟩
 rw [Tryz.params9] at ht
 have hm:t ∈ [78,29]:=by simpa using Array.mem_of_getElem? ht
 have hall:([78,29].all fun u=>!Tryz.prog.wantsStandIn u)=true:=by kernel_rfl
 exact (show Tryz.prog.wantsStandIn t=false by simpa using List.all_eq_true.1 hall t hm)
end StripeThree
theorem stripeThree_card:Rows.StripeThreeCardSaid:=
 Claim7.holds_tied_plain_at .later [] _ _ _ _ StripeThree.said (fun _ h=>by cases h) (by kernel_rfl) (fun _ h=>by cases h) stripeThree_row_tie rfl ⟨rfl,rfl⟩ (by kernel_rfl) rfl StripeThree.plain (by kernel_rfl)
#print axioms stripeThree_card
end Go.Proofs.YthegnmanjdlmjaaGreatDoor
