/- CommitFormats: the given statement, proved. -/
import Derived.Test.YtmfcgihgdhfalaaGreatDoorF06
import Derived.Test.YtmfcgihgdhfalaaGreatDoorF13
set_option linter.unusedSimpArgs false
set_option linter.unusedVariables false
namespace Go.Proofs.YtmfcgihgdhfalaaGreatDoor
open Go.Sh Go.RowKit Go.ChangeShapes Go.WideShapes Go.ChangeAt
namespace CommitFormats
set_option maxRecDepth 100000 in
theorem contract(H:Type)(enc:TypeId×Value->H)(W:World)(base:Nat)(args:Array Value)(ds gs:List (DataW H))(before:List MemPlace)
  (hval:∀(j:Nat) t v,Tryz.f4.params[j]? = some t->args[j]? = some v->Value.okWide Tryz.prog W .any base t v)
  (hW:DataW.Whole enc Tryz.prog Tryz.f4.params.toList Rows.commitFormatsSpec.vars false W args.toList ds gs before) (hL:laidMetH Tryz.prog Rows.commitFormatsRow.laid W):
  Calls Tryz.prog 4 args W λe W'=>∃v,e = .returned v∧Rows.commitFormatsSpec.post enc Tryz.prog Tryz.f4 false true false false W args v W':=by
 have hW':=hW;obtain⟨p,q,hA0,hV,rfl,hfz,hnd⟩:=hW;have hA:DataW.TrodAll enc Tryz.prog W 0 (λ_=>true) true Tryz.f4.params.toList args.toList ds p:=hA0;rw[Tryz.params4]at hA hval;obtain⟨v0,v1,v2,d0,d1,d2,p0,p1,p2,rfl,rfl,rfl,h0,h1,h2⟩:=trodAll_three hA;obtain⟨n0,rfl⟩:=vh (hval 0 3 _ rfl rfl);obtain⟨n1,rfl⟩:=vh (hval 1 3 _ rfl rfl);obtain⟨fuel2,h2⟩:=h2;obtain⟨cs2,rfl⟩:=HS (P:=Tryz.prog) (by rw[Tryz.underlying62];rfl) (hval 2 62 _ rfl rfl);obtain⟨na2,nb2,en2⟩:=Pw (sS h2);obtain rfl:cs2 = #[.int .i64 na2,.int .i64 nb2]:=by rw[←Array.toList_inj];exact en2
 have key:aZ.W #[.int .i64 n0,.int .i64 n1,.agg #[.int .i64 na2,.int .i64 nb2]] (λv h'=>v = .bool true∧bq (hp W) h') (hp W):=by
  rw[aZ.RU];exact Gz (h:=hp W) (y3 hL).1 (y3 hL).2 Qj λh' k=>⟨rfl,k⟩
 refine(ai.calls aZ.good Tryz.call4 key).mono λe W' h=>?_;obtain⟨v,rfl,⟨rfl,k⟩,st⟩:=h;exact⟨_,rfl,JQ Tryz.laidOut (by decide +kernel) rfl rfl rfl rfl rfl Tryz.underlying4 hW' (k.below st)⟩
theorem Mp(os:Os):laidMet Tryz.prog Rows.commitFormatsRow.laid ((tZ os).forCall (λ_ _=>0) ⟨#[],#[.int .i64 0,.int .i64 0,.agg #[.int .i64 0,.int .i64 0]],[]⟩).memory:=
 laidMet_of_run' 8 (by kernel_rfl) (by kernel_rfl)
theorem reads(os:Os){H:Type}(enc:TypeId×Value->H):∃places,DataW.whole enc Tryz.prog ((tZ os).forCall (λ_ _=>0) ⟨#[],#[.int .i64 0,.int .i64 0,.agg #[.int .i64 0,.int .i64 0]],[]⟩).memory Tryz.f4.params.toList Rows.commitFormatsSpec.vars false (#[.int .i64 0,.int .i64 0,.agg #[.int .i64 0,.int .i64 0]]:Array Value).toList 8=some ([.lit (.int .i64 0),.lit (.int .i64 0),.agg [.lit (.int .i64 0),.lit (.int .i64 0)]],[],places):=
 ⟨[],by kernel_rfl⟩
set_option maxRecDepth 100000 in
theorem lifted(os:Os)(started:os.Started)(H:Type)(enc:TypeId×Value->H)(F:Stop.Interp):
  ReturnsInHanded {} Tryz.checked os 4 .any ((OpenSpec.ofChange Rows.commitFormatsSpec).preRow enc Tryz.prog Tryz.f4 Rows.commitFormatsRow.domain false Rows.commitFormatsRow.laid) (((OpenSpec.ofChange Rows.commitFormatsSpec).at F).post enc Tryz.prog Tryz.f4 false true false false):=by
 obtain⟨places,hx⟩:=reads os enc;refine returnsInHanded_of_row (C:=Tryz.checked) (s:=OpenSpec.ofChange Rows.commitFormatsSpec) Tryz.own started (by kernel_rfl) Tryz.func4
  (witness_row_at (enc:=enc) (C:=Tryz.checked) false (tZ os) #[.int .i64 0,.int .i64 0,.agg #[.int .i64 0,.int .i64 0]] rfl (by kernel_rfl) (by kernel_rfl) (by kernel_rfl)
   (OpenSpec.preRow_of_cond 8 hx (by kernel_rfl) (λk hk=>by cases hk) (by kernel_rfl) (Mp os))) ?_
 intro W base args ds gs before hval hW _ _ _ hL _ _;exact contract H enc W base args ds gs before hval hW hL
theorem k1:Rows.commitFormatsRow.wf (OpenSpec.ofChange Rows.commitFormatsSpec)=true:=by kernel_rfl
theorem k4:Tryz.f4.params.all (Tryz.prog.readableRec ·)=true:=by kernel_rfl
theorem k5:namedTie Tryz.prog Rows.commitFormatsRow.named Rows.commitFormatsSpec.vars=true:=by kernel_rfl
theorem k6:(Rows.commitFormatsRow.stops == [])=true:=by kernel_rfl
theorem k8:(Rows.commitFormatsRow.knobs == [])=true:=by kernel_rfl
theorem Pj:(Rows.commitFormatsRow.inPlace == Tryz.prog.inPlace 4)=true:=by kernel_rfl
theorem wG:(Rows.commitFormatsRow.unfollowed == Tryz.prog.unfollowed 4)=true:=by kernel_rfl
theorem ye:(Rows.commitFormatsRow.recurses == Tryz.prog.recurses 4)=true:=by kernel_rfl
theorem EB:(Rows.commitFormatsRow.named == Tryz.prog.varsNamed 4)=true:=by kernel_rfl
theorem N9:(Rows.commitFormatsRow.maps == (Tryz.f4.params.toList++Rows.commitFormatsSpec.plain.varTypes Tryz.prog).any (Tryz.prog.mapsRec ·))=true:=by kernel_rfl
theorem Sb:(Rows.commitFormatsRow.ifaces == (Tryz.f4.params.toList++Rows.commitFormatsSpec.plain.varTypes Tryz.prog).any (Tryz.prog.ifacesRec ·))=true:=by kernel_rfl
theorem NY:(Rows.commitFormatsRow.mapsOut == Tryz.prog.mapsAmong Tryz.f4.resultTypes.toList)=true:=by kernel_rfl
theorem Lp:(Rows.commitFormatsRow.loops == (Tryz.f4.params.toList++Rows.commitFormatsSpec.plain.varTypes Tryz.prog).any (Tryz.prog.loopsFrom ·))=true:=by kernel_rfl
theorem Qa:(Rows.commitFormatsRow.wideKeys == (Tryz.f4.params.toList++Rows.commitFormatsSpec.plain.varTypes Tryz.prog++Tryz.f4.resultTypes.toList).any (Tryz.prog.wideKeysFrom ·))=true:=by kernel_rfl
theorem Q2:Rows.commitFormatsSpec.vars.all (Tryz.prog.varReadable ·)=true:=by kernel_rfl
theorem St:Tryz.f4.resultTypes.all (λt=>Tryz.prog.readableRec t && decide (t<Tryz.prog.types.size))=true:=by kernel_rfl
theorem PV:(Rows.commitFormatsRow.ifacesOut == Tryz.f4.resultTypes.toList.any (Tryz.prog.ifacesRec ·))=true:=by kernel_rfl
theorem RY:(Rows.commitFormatsRow.loopsOut == Tryz.f4.resultTypes.toList.any (Tryz.prog.loopsFrom ·))=true:=by kernel_rfl
theorem RR:Rows.commitFormatsRow.shortTexts.isNone=true:=by kernel_rfl
theorem R5:(Rows.commitFormatsRow.kinds == (if Rows.commitFormatsRow.domain.isEmpty then [] else Tryz.f4.params.toList.map λt=>match Tryz.prog.underlying t with|some (.int k)=>some k|_=>none))=true:=by kernel_rfl
theorem Sj:(Rows.commitFormatsRow.pinned == Rows.commitFormatsRow.pinnedBy)=true:=by kernel_rfl
theorem Su:(Rows.commitFormatsRow.veiled == (Tryz.f4.params.toList++Rows.commitFormatsSpec.plain.varTypes Tryz.prog++Tryz.f4.resultTypes.toList).any (Tryz.prog.veiledRec ·))=true:=by kernel_rfl
theorem RH:Rows.commitFormatsRow.veiledFits Tryz.prog Tryz.f4.params.toList (Tryz.f4.params.toList++Rows.commitFormatsSpec.plain.varTypes Tryz.prog++Tryz.f4.resultTypes.toList)=true:=by kernel_rfl
set_option maxRecDepth 100000 in
theorem closed:joinedFacts Tryz.prog 4 Tryz.f4 Rows.commitFormatsSpec Rows.commitFormatsRow=true:=MK k1 k4 k5 k6 k8 Pj wG ye EB N9 Sb NY Lp Qa Q2 St PV RY rfl RR rfl rfl R5 Sj Su RH
set_option maxRecDepth 100000 in
theorem said:Rows.CommitFormatsSaid:=
 OpenClaim.holds_of_cond 4 Tryz.f4 rfl rfl rfl rfl rfl rfl rfl ⟨rfl,rfl,rfl,rfl,rfl⟩ rfl rfl rfl rfl rfl (by kernel_rfl) Tryz.func4 closed
  (of_decide_eq_true (by kernel_rfl)) (by unfold Func.isWrapper;first|(rw[if_pos (by decide +kernel)];kernel_rfl)|(rw[if_neg (by decide +kernel)];exact⟨rfl,rfl⟩))
  (λos started H enc _ F=>by rw[OpenClaim.pre_eq_preRow];exact lifted os started H enc F)
theorem plain(f:FuncId)(fn:Func)(hf:Tryz.pinned.checked.prog.funcNamed "cofferdam/cofferdamlaw20.CommitFormats" = some f)(hfn:Tryz.pinned.checked.prog.funcs[f]? = some fn):
  false=Tryz.pinned.checked.prog.looks []∧∀(j:Nat) t,fn.params[j]? = some t->Tryz.pinned.checked.prog.wantsStandIn t=false:=by
 obtain rfl:f=4:=Option.some.inj ((show Tryz.prog.funcNamed "cofferdam/cofferdamlaw20.CommitFormats" = some 4 by kernel_rfl).symm.trans hf) |>.symm;obtain rfl:fn=Tryz.f4:=(Option.some.inj (Tryz.func4.symm.trans hfn)).symm;refine⟨by kernel_rfl,λj t ht=>?_⟩;rw[Tryz.params4]at ht;have hm:t ∈ [3,3,62]:=by simpa using Array.mem_of_getElem? ht
 have hall:([3,3,62].all λu=>!Tryz.prog.wantsStandIn u)=true:=by kernel_rfl
 exact(show Tryz.prog.wantsStandIn t=false by simpa using List.all_eq_true.1 hall t hm)
end CommitFormats
theorem commitFormats_card:Rows.CommitFormatsCardSaid:=
 Claim7.holds_tied_plain_at .later [] _ _ _ _ CommitFormats.said (λ_ h=>by cases h) (by kernel_rfl) (λ_ h=>by cases h) commitFormats_row_tie rfl ⟨rfl,rfl⟩ (by kernel_rfl) rfl CommitFormats.plain (by kernel_rfl)
#print axioms commitFormats_card
end Go.Proofs.YtmfcgihgdhfalaaGreatDoor
