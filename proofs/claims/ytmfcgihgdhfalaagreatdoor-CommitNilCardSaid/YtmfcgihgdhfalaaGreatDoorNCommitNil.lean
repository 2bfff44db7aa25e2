/- CommitNil: the given statement, proved. -/
import Derived.Test.YtmfcgihgdhfalaaGreatDoorN06
import Derived.Test.YtmfcgihgdhfalaaGreatDoorN13
set_option linter.unusedSimpArgs false
set_option linter.unusedVariables false
namespace Go.Proofs.YtmfcgihgdhfalaaGreatDoor
open Go.Sh Go.RowKit Go.ChangeShapes Go.WideShapes Go.ChangeAt
namespace CommitNil
set_option maxRecDepth 100000 in
theorem contract(H:Type)(enc:TypeId×Value->H)(W:World)(base:Nat)(args:Array Value)(ds gs:List (DataW H))(before:List MemPlace)
  (hval:∀(j:Nat) t v,Tryz.f3.params[j]? = some t->args[j]? = some v->Value.okWide Tryz.prog W .any base t v)
  (hW:DataW.Whole enc Tryz.prog Tryz.f3.params.toList Rows.commitNilSpec.vars false W args.toList ds gs before) (hL:laidMetH Tryz.prog Rows.commitNilRow.laid W):
  Calls Tryz.prog 3 args W λe W'=>∃v,e = .returned v∧Rows.commitNilSpec.post enc Tryz.prog Tryz.f3 false true false false W args v W':=by
 have hW':=hW;obtain⟨p,q,hA0,hV,rfl,hfz,hnd⟩:=hW;have hA:DataW.TrodAll enc Tryz.prog W 0 (λ_=>true) true Tryz.f3.params.toList args.toList ds p:=hA0;rw[Tryz.params3]at hA hval;obtain⟨v0,d0,rfl,rfl,h0⟩:=trodAll_one hA;obtain⟨fuel0,h0⟩:=h0;obtain⟨cs0,rfl⟩:=HR (P:=Tryz.prog) (by rw[Tryz.underlying25];rfl) (hval 0 25 _ rfl rfl);obtain⟨m0,hm0⟩:=LC (sR h0);obtain rfl:cs0 = #[.int .i64 m0.RE,.int .i64 m0.hU,.int .i64 m0.at_,.int .i64 m0.Pv,.string m0.cell,.slice m0.ca m0.cl m0.cc,.slice m0.ka m0.kl m0.kc]:=by rw[←Array.toList_inj];exact hm0
 have key:cL.W #[.agg #[.int .i64 m0.RE,.int .i64 m0.hU,.int .i64 m0.at_,.int .i64 m0.Pv,.string m0.cell,.slice m0.ca m0.cl m0.cc,.slice m0.ka m0.kl m0.kc]] (λv h'=>v = .bool true∧bq (hp W) h') (hp W):=by
  rw[cL.RU];exact NL (h:=hp W) (y3 hL).1 (y3 hL).2 Qg λh' k=>⟨rfl,k⟩
 refine(ai.calls cL.good Tryz.call3 key).mono λe W' h=>?_;obtain⟨v,rfl,⟨rfl,k⟩,st⟩:=h;exact⟨_,rfl,JQ Tryz.laidOut (by decide +kernel) rfl rfl rfl rfl rfl Tryz.underlying4 hW' (k.below st)⟩
theorem Mo(os:Os):laidMet Tryz.prog Rows.commitNilRow.laid ((ua os).forCall (λ_ _=>0) ⟨#[],#[.agg #[.int .i64 0,.int .i64 0,.int .i64 0,.int .i64 0,.string .empty,.slice none 0 0,.slice none 0 0]],[]⟩).memory:=
 laidMet_of_run' 8 (by kernel_rfl) (by kernel_rfl)
theorem reads(os:Os){H:Type}(enc:TypeId×Value->H):∃places,DataW.whole enc Tryz.prog ((ua os).forCall (λ_ _=>0) ⟨#[],#[.agg #[.int .i64 0,.int .i64 0,.int .i64 0,.int .i64 0,.string .empty,.slice none 0 0,.slice none 0 0]],[]⟩).memory Tryz.f3.params.toList Rows.commitNilSpec.vars false (#[.agg #[.int .i64 0,.int .i64 0,.int .i64 0,.int .i64 0,.string .empty,.slice none 0 0,.slice none 0 0]]:Array Value).toList 8=some ([.agg [.lit (.int .i64 0),.lit (.int .i64 0),.lit (.int .i64 0),.lit (.int .i64 0),.lit (.string []),.nil,.nil]],[],places):=
 ⟨[],by kernel_rfl⟩
set_option maxRecDepth 100000 in
theorem lifted(os:Os)(started:os.Started)(H:Type)(enc:TypeId×Value->H)(F:Stop.Interp):
  ReturnsInHanded {} Tryz.checked os 3 .any ((OpenSpec.ofChange Rows.commitNilSpec).preRow enc Tryz.prog Tryz.f3 Rows.commitNilRow.domain false Rows.commitNilRow.laid) (((OpenSpec.ofChange Rows.commitNilSpec).at F).post enc Tryz.prog Tryz.f3 false true false false):=by
 obtain⟨places,hx⟩:=reads os enc;refine returnsInHanded_of_row (C:=Tryz.checked) (s:=OpenSpec.ofChange Rows.commitNilSpec) Tryz.own started (by kernel_rfl) Tryz.func3
  (witness_row_at (enc:=enc) (C:=Tryz.checked) false (ua os) #[.agg #[.int .i64 0,.int .i64 0,.int .i64 0,.int .i64 0,.string .empty,.slice none 0 0,.slice none 0 0]] rfl (by kernel_rfl) (by kernel_rfl) (by kernel_rfl)
   (OpenSpec.preRow_of_cond 8 hx (by kernel_rfl) (λk hk=>by cases hk) (by kernel_rfl) (Mo os))) ?_
 intro W base args ds gs before hval hW _ _ _ hL _ _;exact contract H enc W base args ds gs before hval hW hL
theorem k1:Rows.commitNilRow.wf (OpenSpec.ofChange Rows.commitNilSpec)=true:=by kernel_rfl
theorem k4:Tryz.f3.params.all (Tryz.prog.readableRec ·)=true:=by kernel_rfl
theorem k5:namedTie Tryz.prog Rows.commitNilRow.named Rows.commitNilSpec.vars=true:=by kernel_rfl
theorem k6:(Rows.commitNilRow.stops == [])=true:=by kernel_rfl
theorem k8:(Rows.commitNilRow.knobs == [])=true:=by kernel_rfl
theorem Ny:(Rows.commitNilRow.inPlace == Tryz.prog.inPlace 3)=true:=by kernel_rfl
theorem u7:(Rows.commitNilRow.unfollowed == Tryz.prog.unfollowed 3)=true:=by kernel_rfl
theorem yb:(Rows.commitNilRow.recurses == Tryz.prog.recurses 3)=true:=by kernel_rfl
theorem Cz:(Rows.commitNilRow.named == Tryz.prog.varsNamed 3)=true:=by kernel_rfl
theorem Mv:(Rows.commitNilRow.maps == (Tryz.f3.params.toList++Rows.commitNilSpec.plain.varTypes Tryz.prog).any (Tryz.prog.mapsRec ·))=true:=by kernel_rfl
theorem Sb:(Rows.commitNilRow.ifaces == (Tryz.f3.params.toList++Rows.commitNilSpec.plain.varTypes Tryz.prog).any (Tryz.prog.ifacesRec ·))=true:=by kernel_rfl
theorem N0:(Rows.commitNilRow.mapsOut == Tryz.prog.mapsAmong Tryz.f3.resultTypes.toList)=true:=by kernel_rfl
theorem Jf:(Rows.commitNilRow.loops == (Tryz.f3.params.toList++Rows.commitNilSpec.plain.varTypes Tryz.prog).any (Tryz.prog.loopsFrom ·))=true:=by kernel_rfl
theorem P7:(Rows.commitNilRow.wideKeys == (Tryz.f3.params.toList++Rows.commitNilSpec.plain.varTypes Tryz.prog++Tryz.f3.resultTypes.toList).any (Tryz.prog.wideKeysFrom ·))=true:=by kernel_rfl
theorem Q0:Rows.commitNilSpec.vars.all (Tryz.prog.varReadable ·)=true:=by kernel_rfl
theorem St:Tryz.f3.resultTypes.all (λt=>Tryz.prog.readableRec t && decide (t<Tryz.prog.types.size))=true:=by kernel_rfl
theorem PT:(Rows.commitNilRow.ifacesOut == Tryz.f3.resultTypes.toList.any (Tryz.prog.ifacesRec ·))=true:=by kernel_rfl
theorem RY:(Rows.commitNilRow.loopsOut == Tryz.f3.resultTypes.toList.any (Tryz.prog.loopsFrom ·))=true:=by kernel_rfl
theorem RR:Rows.commitNilRow.shortTexts.isNone=true:=by kernel_rfl
theorem R5:(Rows.commitNilRow.kinds == (if Rows.commitNilRow.domain.isEmpty then [] else Tryz.f3.params.toList.map λt=>match Tryz.prog.underlying t with|some (.int k)=>some k|_=>none))=true:=by kernel_rfl
theorem Sj:(Rows.commitNilRow.pinned == Rows.commitNilRow.pinnedBy)=true:=by kernel_rfl
theorem Su:(Rows.commitNilRow.veiled == (Tryz.f3.params.toList++Rows.commitNilSpec.plain.varTypes Tryz.prog++Tryz.f3.resultTypes.toList).any (Tryz.prog.veiledRec ·))=true:=by kernel_rfl
theorem RH:Rows.commitNilRow.veiledFits Tryz.prog Tryz.f3.params.toList (Tryz.f3.params.toList++Rows.commitNilSpec.plain.varTypes Tryz.prog++Tryz.f3.resultTypes.toList)=true:=by kernel_rfl
set_option maxRecDepth 100000 in
theorem closed:joinedFacts Tryz.prog 3 Tryz.f3 Rows.commitNilSpec Rows.commitNilRow=true:=MK k1 k4 k5 k6 k8 Ny u7 yb Cz Mv Sb N0 Jf P7 Q0 St PT RY rfl RR rfl rfl R5 Sj Su RH
set_option maxRecDepth 100000 in
theorem said:Rows.CommitNilSaid:=
 OpenClaim.holds_of_cond 3 Tryz.f3 rfl rfl rfl rfl rfl rfl rfl ⟨rfl,rfl,rfl,rfl,rfl⟩ rfl rfl rfl rfl rfl (by kernel_rfl) Tryz.func3 closed
  (of_decide_eq_true (by kernel_rfl)) (by unfold Func.isWrapper;first|(rw[if_pos (by decide +kernel)];kernel_rfl)|(rw[if_neg (by decide +kernel)];exact⟨rfl,rfl⟩))
  (λos started H enc _ F=>by rw[OpenClaim.pre_eq_preRow];exact lifted os started H enc F)
theorem plain(f:FuncId)(fn:Func)(hf:Tryz.pinned.checked.prog.funcNamed "cofferdam/cofferdamlaw20.CommitNil" = some f)(hfn:Tryz.pinned.checked.prog.funcs[f]? = some fn):
  false=Tryz.pinned.checked.prog.looks []∧∀(j:Nat) t,fn.params[j]? = some t->Tryz.pinned.checked.prog.wantsStandIn t=false:=by
 obtain rfl:f=3:=Option.some.inj ((show Tryz.prog.funcNamed "cofferdam/cofferdamlaw20.CommitNil" = some 3 by kernel_rfl).symm.trans hf) |>.symm;obtain rfl:fn=Tryz.f3:=(Option.some.inj (Tryz.func3.symm.trans hfn)).symm;refine⟨by kernel_rfl,λj t ht=>?_⟩;rw[Tryz.params3]at ht;have hm:t ∈ [25]:=by simpa using Array.mem_of_getElem? ht
 have hall:([25].all λu=>!Tryz.prog.wantsStandIn u)=true:=by kernel_rfl
 exact(show Tryz.prog.wantsStandIn t=false by simpa using List.all_eq_true.1 hall t hm)
end CommitNil
theorem commitNil_card:Rows.CommitNilCardSaid:=
 Claim7.holds_tied_plain_at .later [] _ _ _ _ CommitNil.said (λ_ h=>by cases h) (by kernel_rfl) (λ_ h=>by cases h) commitNil_row_tie rfl ⟨rfl,rfl⟩ (by kernel_rfl) rfl CommitNil.plain (by kernel_rfl)
#print axioms commitNil_card
end Go.Proofs.YtmfcgihgdhfalaaGreatDoor
