/- StripeTwo: the given statement, proved. -/
import Derived.Test.YthegnmanjdlmjaaGreatDoorS07
import Derived.Test.YthegnmanjdlmjaaGreatDoorS15
set_option linter.unusedSimpArgs false
set_option linter.unusedVariables false
namespace Go.Proofs.YthegnmanjdlmjaaGreatDoor
open Go.Sh Go.RowKit Go.ChangeShapes Go.WideShapes Go.ChangeAt
namespace StripeTwo
set_option maxRecDepth 100000 in
theorem contract (H:Type) (enc:TypeId × Value→H) (W:World) (base:Nat) (args:Array Value) (ds gs:List (DataW H)) (before:List MemPlace)
  (hval:∀ (j:Nat) t v,Tryz.f10.params[j]? = some t→args[j]? = some v→Value.okWide Tryz.prog W .any base t v)
  (hW:DataW.Whole enc Tryz.prog Tryz.f10.params.toList Rows.stripeTwoSpec.vars false W args.toList ds gs before) (hL:laidMetH Tryz.prog Rows.stripeTwoRow.laid W):
  Calls Tryz.prog 10 args W fun e W'=>∃ v,e = .returned v∧Rows.stripeTwoSpec.post enc Tryz.prog Tryz.f10 false true false false W args v W':=by
 have hW':=hW
 obtain ⟨p,q,hA0,hV,rfl,hfz,hnd⟩:=hW
 have hA:DataW.TrodAll enc Tryz.prog W 0 (fun _=>true) true Tryz.f10.params.toList args.toList ds p:=hA0
 rw [Tryz.params10] at hA hval
 obtain ⟨v0,v1,v2,d0,d1,d2,p0,p1,p2,rfl,rfl,rfl,h0,h1,h2⟩:=trodAll_three hA
 obtain ⟨fuel0,h0⟩:=h0
 obtain ⟨cs0,rfl⟩:=okWide_agg (P:=Tryz.prog) (by rw [Tryz.underlying78]; rfl) (hval 0 78 _ rfl rfl)
 obtain ⟨na0,nb0,nc0,nd0,en0⟩:=four_of (In_of_trod h0)
 obtain rfl:cs0 = #[.int .i64 na0,.int .i64 nb0,.int .i64 nc0,.int .i64 nd0]:=by rw [←Array.toList_inj]; exact en0
 obtain ⟨fuel1,h1⟩:=h1
 obtain ⟨a1,l1,c1,ms1,hv1,hl1,hm1,hs1⟩:=bytes19 (In_of_trod h1)
 obtain ⟨a1',l1',c1',rfl⟩:=okWide_slice Tryz.underlying29 (hval 1 29 _ rfl rfl)
 obtain ⟨rfl,rfl,rfl⟩:a1'=a1∧l1'=l1∧c1'=c1:=by simpa [Value.cells] using hv1
 obtain ⟨fuel2,h2⟩:=h2
 obtain ⟨a2,l2,c2,ms2,hv2,hl2,hs2⟩:=harms19 (In_of_trod h2)
 obtain ⟨a2',l2',c2',rfl⟩:=okWide_slice Tryz.underlying91 (hval 2 91 _ rfl rfl)
 obtain ⟨rfl,rfl,rfl⟩:a2'=a2∧l2'=l2∧c2'=c2:=by simpa [Value.cells] using hv2
 have key:law19_StripeTwo.W #[.agg #[.int .i64 na0,.int .i64 nb0,.int .i64 nc0,.int .i64 nd0],.slice a1' l1' c1',.slice a2' l2' c2'] (fun v h'=>v = .bool true∧Keep (hp W) h') (hp W):=by
  rw [law19_StripeTwo.W_eq]
  exact stripeTwo (h:=hp W) hs1 hm1 hs2 hl2 (laid_tabs19 hL) fun h' k=>⟨rfl,k⟩
 refine (FnGood.calls law19_StripeTwo.good Tryz.call10 key).mono fun e W' h=>?_
 obtain ⟨v,rfl,⟨rfl,k⟩,st⟩:=h
 exact ⟨_,rfl,post_true Tryz.laidOut (by decide +kernel) rfl rfl rfl rfl rfl Tryz.underlying4 hW' (k.below st)⟩
theorem laid_met (os:Os):laidMet Tryz.prog Rows.stripeTwoRow.laid ((laidWorld19 os).forCall (fun _ _=>0) ⟨#[],#[.agg #[.int .i64 0,.int .i64 0,.int .i64 0,.int .i64 0],.slice none 0 0,.slice none 0 0],[]⟩).memory:=
 laidMet_of_run' 8 (by kernel_rfl) (by kernel_rfl)
theorem reads (os:Os) {H:Type} (enc:TypeId × Value→H):∃ places,DataW.whole enc Tryz.prog ((laidWorld19 os).forCall (fun _ _=>0) ⟨#[],#[.agg #[.int .i64 0,.int .i64 0,.int .i64 0,.int .i64 0],.slice none 0 0,.slice none 0 0],[]⟩).memory Tryz.f10.params.toList Rows.stripeTwoSpec.vars false (#[.agg #[.int .i64 0,.int .i64 0,.int .i64 0,.int .i64 0],.slice none 0 0,.slice none 0 0]:Array Value).toList 8=some ([.agg [.lit (.int .i64 0),.lit (.int .i64 0),.lit (.int .i64 0),.lit (.int .i64 0)],.nil,.nil],[],places):=
 ⟨[],by kernel_rfl⟩
set_option maxRecDepth 100000 in
theorem lifted (os:Os) (started:os.Started) (H:Type) (enc:TypeId × Value→H) (F:Stop.Interp):
  ReturnsInHanded {} Tryz.checked os 10 .any ((OpenSpec.ofChange Rows.stripeTwoSpec).preRow enc Tryz.prog Tryz.f10 Rows.stripeTwoRow.domain false Rows.stripeTwoRow.laid) (((OpenSpec.ofChange Rows.stripeTwoSpec).at F).post enc Tryz.prog Tryz.f10 false true false false):=by
 obtain ⟨places,hx⟩:=reads os enc
 refine returnsInHanded_of_row (C:=Tryz.checked) (s:=OpenSpec.ofChange Rows.stripeTwoSpec) Tryz.own started (by kernel_rfl) Tryz.func10
  (witness_row_at (enc:=enc) (C:=Tryz.checked) false (laidWorld19 os) #[.agg #[.int .i64 0,.int .i64 0,.int .i64 0,.int .i64 0],.slice none 0 0,.slice none 0 0] rfl (by kernel_rfl) (by kernel_rfl) (by kernel_rfl)
   (OpenSpec.preRow_of_cond 8 hx (by kernel_rfl) (fun k hk=>by cases hk) (by kernel_rfl) (laid_met os))) ?_
 intro W base args ds gs before hval hW _ _ _ hL _ _
 exact contract H enc W base args ds gs before hval hW hL
theorem k1:Rows.stripeTwoRow.wf (OpenSpec.ofChange Rows.stripeTwoSpec)=true:=by kernel_rfl
theorem k4:Tryz.f10.params.all (Tryz.prog.readableRec ·)=true:=by kernel_rfl
theorem k5:namedTie Tryz.prog Rows.stripeTwoRow.named Rows.stripeTwoSpec.vars=true:=by kernel_rfl
theorem k6:(Rows.stripeTwoRow.stops == [])=true:=by kernel_rfl
theorem k8:(Rows.stripeTwoRow.knobs == [])=true:=by kernel_rfl
theorem k10:(Rows.stripeTwoRow.inPlace == Tryz.prog.inPlace 10)=true:=by kernel_rfl
theorem k11:(Rows.stripeTwoRow.unfollowed == Tryz.prog.unfollowed 10)=true:=by kernel_rfl
theorem k12:(Rows.stripeTwoRow.recurses == Tryz.prog.recurses 10)=true:=by kernel_rfl
theorem k13:(Rows.stripeTwoRow.named == Tryz.prog.varsNamed 10)=true:=by kernel_rfl
theorem k14:(Rows.stripeTwoRow.maps == (Tryz.f10.params.toList++Rows.stripeTwoSpec.plain.varTypes Tryz.prog).any (Tryz.prog.mapsRec ·))=true:=by kernel_rfl
theorem k15:(Rows.stripeTwoRow.ifaces == (Tryz.f10.params.toList++Rows.stripeTwoSpec.plain.varTypes Tryz.prog).any (Tryz.prog.ifacesRec ·))=true:=by kernel_rfl
theorem k16:(Rows.stripeTwoRow.mapsOut == Tryz.prog.mapsAmong Tryz.f10.resultTypes.toList)=true:=by kernel_rfl
theorem k17:(Rows.stripeTwoRow.loops == (Tryz.f10.params.toList++Rows.stripeTwoSpec.plain.varTypes Tryz.prog).any (Tryz.prog.loopsFrom ·))=true:=by kernel_rfl
theorem k17b:(Rows.stripeTwoRow.wideKeys == (Tryz.f10.params.toList++Rows.stripeTwoSpec.plain.varTypes Tryz.prog++Tryz.f10.resultTypes.toList).any (Tryz.prog.wideKeysFrom ·))=true:=by kernel_rfl
theorem k18:Rows.stripeTwoSpec.vars.all (Tryz.prog.varReadable ·)=true:=by kernel_rfl
theorem k19:Tryz.f10.resultTypes.all (fun t=>Tryz.prog.readableRec t && decide (t<Tryz.prog.types.size))=true:=by kernel_rfl
theorem k20:(Rows.stripeTwoRow.ifacesOut == Tryz.f10.resultTypes.toList.any (Tryz.prog.ifacesRec ·))=true:=by kernel_rfl
theorem k21:(Rows.stripeTwoRow.loopsOut == Tryz.f10.resultTypes.toList.any (Tryz.prog.loopsFrom ·))=true:=by kernel_rfl
theorem k23:Rows.stripeTwoRow.shortTexts.isNone=true:=by kernel_rfl
theorem k25:(Rows.stripeTwoRow.kinds == (if Rows.stripeTwoRow.domain.isEmpty then [] else Tryz.f10.params.toList.map fun t=>match Tryz.prog.underlying t with | some (.int k)=>some k | _=>none))=true:=by kernel_rfl
theorem k26:(Rows.stripeTwoRow.pinned == Rows.stripeTwoRow.pinnedBy)=true:=by kernel_rfl
theorem k27:(Rows.stripeTwoRow.veiled == (Tryz.f10.params.toList++Rows.stripeTwoSpec.plain.varTypes Tryz.prog++Tryz.f10.resultTypes.toList).any (Tryz.prog.veiledRec ·))=true:=by kernel_rfl
theorem k28:Rows.stripeTwoRow.veiledFits Tryz.prog Tryz.f10.params.toList (Tryz.f10.params.toList++Rows.stripeTwoSpec.plain.varTypes Tryz.prog++Tryz.f10.resultTypes.toList)=true:=by kernel_rfl
set_option maxRecDepth 100000 in
theorem closed:joinedFacts Tryz.prog 10 Tryz.f10 Rows.stripeTwoSpec Rows.stripeTwoRow=true:=facts_of k1 k4 k5 k6 k8 k10 k11 k12 k13 k14 k15 k16 k17 k17b k18 k19 k20 k21 rfl k23 rfl rfl k25 k26 k27 k28
set_option maxRecDepth 100000 in
theorem said:Rows.StripeTwoSaid:=
 OpenClaim.holds_of_cond 10 Tryz.f10 rfl rfl rfl rfl rfl rfl rfl ⟨rfl,rfl,rfl,rfl,rfl⟩ rfl rfl rfl rfl rfl (by kernel_rfl) Tryz.func10 closed
  (of_decide_eq_true (by kernel_rfl)) (by unfold Func.isWrapper; first | (rw [if_pos (by decide +kernel)]; kernel_rfl) | (rw [if_neg (by decide +kernel)]; exact ⟨rfl,rfl⟩))
  (fun os started H enc _ F=>by rw [OpenClaim.pre_eq_preRow]; exact lifted os started H enc F)
theorem plain (f:FuncId) (fn:Func) (hf:Tryz.pinned.checked.prog.funcNamed "cofferdam/cofferdamlaw19.StripeTwo" = some f) (hfn:Tryz.pinned.checked.prog.funcs[f]? = some fn):
  false=Tryz.pinned.checked.prog.looks []∧∀ (j:Nat) t,fn.params[j]? = some t→Tryz.pinned.checked.prog.wantsStandIn t=false:=by
 obtain rfl:f=10:=Option.some.inj ((show Tryz.prog.funcNamed "cofferdam/cofferdamlaw19.StripeTwo" = some 10 by kernel_rfl).symm.trans hf) |>.symm
 obtain rfl:fn=Tryz.f10:=(Option.some.inj (Tryz.func10.symm.trans hfn)).symm
 refine ⟨by kernel_rfl,fun j t ht=>?_⟩
 rw [Tryz.params10] at ht
 have hm:t ∈ [78,29,91]:=by simpa using Array.mem_of_getElem? ht
 have hall:([78,29,91].all fun u=>!Tryz.prog.wantsStandIn u)=true:=by kernel_rfl
 exact (show Tryz.prog.wantsStandIn t=false by simpa using List.all_eq_true.1 hall t hm)
end StripeTwo
theorem stripeTwo_card:Rows.StripeTwoCardSaid:=
 Claim7.holds_tied_plain_at .later [] _ _ _ _ StripeTwo.said (fun _ h=>by cases h) (by kernel_rfl) (fun _ h=>by cases h) stripeTwo_row_tie rfl ⟨rfl,rfl⟩ (by kernel_rfl) rfl StripeTwo.plain (by kernel_rfl)
#print axioms stripeTwo_card
end Go.Proofs.YthegnmanjdlmjaaGreatDoor
