/- SlabPlays: the given statement, proved. -/
import Derived.Test.YthegnmanjdlmjaaGreatDoorP13
import Derived.Test.YthegnmanjdlmjaaGreatDoorP14
set_option linter.unusedSimpArgs false
set_option linter.unusedVariables false
namespace Go.Proofs.YthegnmanjdlmjaaGreatDoor
open Go.Sh Go.RowKit Go.ChangeShapes Go.WideShapes Go.ChangeAt
namespace SlabPlays
set_option maxRecDepth 100000 in
theorem contract (H:Type) (enc:TypeId × Value→H) (W:World) (base:Nat) (args:Array Value) (ds gs:List (DataW H)) (before:List MemPlace)
  (hval:∀ (j:Nat) t v,Tryz.f7.params[j]? = some t→args[j]? = some v→Value.okWide Tryz.prog W .any base t v)
  (hW:DataW.Whole enc Tryz.prog Tryz.f7.params.toList Rows.slabPlaysSpec.vars false W args.toList ds gs before) (hL:laidMetH Tryz.prog Rows.slabPlaysRow.laid W):
  Calls Tryz.prog 7 args W fun e W'=>∃ v,e = .returned v∧Rows.slabPlaysSpec.post enc Tryz.prog Tryz.f7 false true false false W args v W':=by
 have hW':=hW
 obtain ⟨p,q,hA0,hV,rfl,hfz,hnd⟩:=hW
 have hA:DataW.TrodAll enc Tryz.prog W 0 (fun _=>true) true Tryz.f7.params.toList args.toList ds p:=hA0
 rw [Tryz.params7] at hA hval
 obtain ⟨v0,v1,v2,d0,d1,d2,p0,p1,p2,rfl,rfl,rfl,h0,h1,h2⟩:=trodAll_three hA
 obtain ⟨fuel0,h0⟩:=h0
 obtain ⟨cs0,rfl⟩:=okWide_agg (P:=Tryz.prog) (by rw [Tryz.underlying66]; rfl) (hval 0 66 _ rfl rfl)
 obtain ⟨na0,nb0,en0⟩:=two_of (In_of_trod h0)
 obtain rfl:cs0 = #[.int .i64 na0,.int .i64 nb0]:=by rw [←Array.toList_inj]; exact en0
 obtain ⟨fuel1,h1⟩:=h1
 obtain ⟨cs1,rfl⟩:=okWide_agg (P:=Tryz.prog) (by rw [Tryz.underlying22]; rfl) (hval 1 22 _ rfl rfl)
 obtain ⟨kz1,hz1,ek1,_⟩:=In_bytes Tryz.underlying22 Tryz.underlying5 (by decide +kernel) (by decide +kernel) (In_of_trod h1)
 obtain rfl:cs1=(bvs kz1).toArray:=by rw [←Array.toList_inj]; exact ek1
 obtain ⟨fuel2,h2⟩:=h2
 obtain ⟨a2,l2,c2,ms2,hv2,hl2,hs2,hp2⟩:=acts17p_of (In_of_trod h2)
 obtain ⟨a2',l2',c2',rfl⟩:=okWide_slice Tryz.underlying23 (hval 2 23 _ rfl rfl)
 obtain ⟨rfl,rfl,rfl⟩:a2'=a2∧l2'=l2∧c2'=c2:=by simpa [Value.cells] using hv2
 have key:law17_SlabPlays.W #[.agg #[.int .i64 na0,.int .i64 nb0],.agg (bvs kz1).toArray,.slice a2' l2' c2'] (fun v h'=>v = .bool true∧Keep (hp W) h') (hp W):=by
  rw [law17_SlabPlays.W_eq]
  exact slabPlays (h:=hp W) (laid_tabs hL) hz1 hs2 hl2 hp2 fun h' k=>⟨rfl,k⟩
 refine (FnGood.calls law17_SlabPlays.good Tryz.call7 key).mono fun e W' h=>?_
 obtain ⟨v,rfl,⟨rfl,k⟩,st⟩:=h
 exact ⟨_,rfl,post_true Tryz.laidOut (by decide +kernel) rfl rfl rfl rfl rfl Tryz.underlying4 hW' (k.below st)⟩
theorem laid_met (os:Os):laidMet Tryz.prog Rows.slabPlaysRow.laid ((laidWorld os).forCall (fun _ _=>0) ⟨#[],#[.agg #[.int .i64 0,.int .i64 0],.agg (bvs (List.replicate 32 0)).toArray,.slice none 0 0],[]⟩).memory:=
 laidMet_of_run' 8 (by kernel_rfl) (by kernel_rfl)
theorem reads (os:Os) {H:Type} (enc:TypeId × Value→H):∃ places,DataW.whole enc Tryz.prog ((laidWorld os).forCall (fun _ _=>0) ⟨#[],#[.agg #[.int .i64 0,.int .i64 0],.agg (bvs (List.replicate 32 0)).toArray,.slice none 0 0],[]⟩).memory Tryz.f7.params.toList Rows.slabPlaysSpec.vars false (#[.agg #[.int .i64 0,.int .i64 0],.agg (bvs (List.replicate 32 0)).toArray,.slice none 0 0]:Array Value).toList 8=some ([.agg [.lit (.int .i64 0),.lit (.int .i64 0)],.agg (List.replicate 32 (.lit (.int .u8 0))),.nil],[],places):=
 ⟨[],by kernel_rfl⟩
set_option maxRecDepth 100000 in
theorem lifted (os:Os) (started:os.Started) (H:Type) (enc:TypeId × Value→H) (F:Stop.Interp):
  ReturnsInHanded {} Tryz.checked os 7 .any ((OpenSpec.ofChange Rows.slabPlaysSpec).preRow enc Tryz.prog Tryz.f7 Rows.slabPlaysRow.domain false Rows.slabPlaysRow.laid) (((OpenSpec.ofChange Rows.slabPlaysSpec).at F).post enc Tryz.prog Tryz.f7 false true false false):=by
 obtain ⟨places,hx⟩:=reads os enc
 refine returnsInHanded_of_row (C:=Tryz.checked) (s:=OpenSpec.ofChange Rows.slabPlaysSpec) Tryz.own started (by kernel_rfl) Tryz.func7
  (witness_row_at (enc:=enc) (C:=Tryz.checked) false (laidWorld os) #[.agg #[.int .i64 0,.int .i64 0],.agg (bvs (List.replicate 32 0)).toArray,.slice none 0 0] rfl (by kernel_rfl) (by kernel_rfl) (by kernel_rfl)
   (OpenSpec.preRow_of_cond 8 hx (by kernel_rfl) (fun k hk=>by cases hk) (by kernel_rfl) (laid_met os))) ?_
 intro W base args ds gs before hval hW _ _ _ hL _ _
 exact contract H enc W base args ds gs before hval hW hL
theorem k1:Rows.slabPlaysRow.wf (OpenSpec.ofChange Rows.slabPlaysSpec)=true:=by kernel_rfl
theorem k4:Tryz.f7.params.all (Tryz.prog.readableRec ·)=true:=by kernel_rfl
theorem k5:namedTie Tryz.prog Rows.slabPlaysRow.named Rows.slabPlaysSpec.vars=true:=by kernel_rfl
theorem k6:(Rows.slabPlaysRow.stops == [])=true:=by kernel_rfl
theorem k8:(Rows.slabPlaysRow.knobs == [])=true:=by kernel_rfl
theorem k10:(Rows.slabPlaysRow.inPlace == Tryz.prog.inPlace 7)=true:=by kernel_rfl
theorem k11:(Rows.slabPlaysRow.unfollowed == Tryz.prog.unfollowed 7)=true:=by kernel_rfl
theorem k12:(Rows.slabPlaysRow.recurses == Tryz.prog.recurses 7)=true:=by kernel_rfl
theorem k13:(Rows.slabPlaysRow.named == Tryz.prog.varsNamed 7)=true:=by kernel_rfl
theorem k14:(Rows.slabPlaysRow.maps == (Tryz.f7.params.toList++Rows.slabPlaysSpec.plain.varTypes Tryz.prog).any (Tryz.prog.mapsRec ·))=true:=by kernel_rfl
theorem k15:(Rows.slabPlaysRow.ifaces == (Tryz.f7.params.toList++Rows.slabPlaysSpec.plain.varTypes Tryz.prog).any (Tryz.prog.ifacesRec ·))=true:=by kernel_rfl
theorem k16:(Rows.slabPlaysRow.mapsOut == Tryz.prog.mapsAmong Tryz.f7.resultTypes.toList)=true:=by kernel_rfl
theorem k17:(Rows.slabPlaysRow.loops == (Tryz.f7.params.toList++Rows.slabPlaysSpec.plain.varTypes Tryz.prog).any (Tryz.prog.loopsFrom ·))=true:=by kernel_rfl
theorem k17b:(Rows.slabPlaysRow.wideKeys == (Tryz.f7.params.toList++Rows.slabPlaysSpec.plain.varTypes Tryz.prog++Tryz.f7.resultTypes.toList).any (Tryz.prog.wideKeysFrom ·))=true:=by kernel_rfl
theorem k18:Rows.slabPlaysSpec.vars.all (Tryz.prog.varReadable ·)=true:=by kernel_rfl
theorem k19:Tryz.f7.resultTypes.all (fun t=>Tryz.prog.readableRec t && decide (t<Tryz.prog.types.size))=true:=by kernel_rfl
theorem k20:(Rows.slabPlaysRow.ifacesOut == Tryz.f7.resultTypes.toList.any (Tryz.prog.ifacesRec ·))=true:=by kernel_rfl
theorem k21:(Rows.slabPlaysRow.loopsOut == Tryz.f7.resultTypes.toList.any (Tryz.prog.loopsFrom ·))=true:=by kernel_rfl
theorem k23:Rows.slabPlaysRow.shortTexts.isNone=true:=by kernel_rfl
theorem k25:(Rows.slabPlaysRow.kinds == (if Rows.slabPlaysRow.domain.isEmpty then [] else Tryz.f7.params.toList.map fun t=>match Tryz.prog.underlying t with | some (.int k)=>some k | _=>none))=true:=by kernel_rfl
theorem k26:(Rows.slabPlaysRow.pinned == Rows.slabPlaysRow.pinnedBy)=true:=by kernel_rfl
theorem k27:(Rows.slabPlaysRow.veiled == (Tryz.f7.params.toList++Rows.slabPlaysSpec.plain.varTypes Tryz.prog++Tryz.f7.resultTypes.toList).any (Tryz.prog.veiledRec ·))=true:=by kernel_rfl
theorem k28:Rows.slabPlaysRow.veiledFits Tryz.prog Tryz.f7.params.toList (Tryz.f7.params.toList++Rows.slabPlaysSpec.plain.varTypes Tryz.prog++Tryz.f7.resultTypes.toList)=true:=by kernel_rfl
set_option maxRecDepth 100000 in
theorem closed:joinedFacts Tryz.prog 7 Tryz.f7 Rows.slabPlaysSpec Rows.slabPlaysRow=true:=facts_of k1 k4 k5 k6 k8 k10 k11 k12 k13 k14 k15 k16 k17 k17b k18 k19 k20 k21 rfl k23 rfl rfl k25 k26 k27 k28
set_option maxRecDepth 100000 in
theorem said:Rows.SlabPlaysSaid:=
 OpenClaim.holds_of_cond 7 Tryz.f7 rfl rfl rfl rfl rfl rfl rfl ⟨rfl,rfl,rfl,rfl,rfl⟩ rfl rfl rfl rfl rfl (by kernel_rfl) Tryz.func7 closed
  (of_decide_eq_true (by kernel_rfl)) (by unfold Func.isWrapper; first | (rw [if_pos (by decide +kernel)]; kernel_rfl) | (rw [if_neg (by decide +kernel)]; exact ⟨rfl,rfl⟩))
  (fun os started H enc _ F=>by rw [OpenClaim.pre_eq_preRow]; exact lifted os started H enc F)
theorem plain (f:FuncId) (fn:Func) (hf:Tryz.pinned.checked.prog.funcNamed "cofferdam/cofferdamlaw17.SlabPlays" = some f) (hfn:Tryz.pinned.checked.prog.funcs[f]? = some fn):
  false=Tryz.pinned.checked.prog.looks []∧∀ (j:Nat) t,fn.params[j]? = some t→Tryz.pinned.checked.prog.wantsStandIn t=false:=by
 obtain rfl:f=7:=Option.some.inj ((show Tryz.prog.funcNamed "cofferdam/cofferdamlaw17.SlabPlays" = some 7 by kernel_rfl).symm.trans hf) |>.symm
 obtain rfl:fn=Tryz.f7:=(Option.some.inj (Tryz.func7.symm.trans hfn)).symm
 refine ⟨by kernel_rfl,fun j t ht=>?_⟩
 rw [Tryz.params7] at ht
 have hm:t ∈ [66,22,23]:=by simpa using Array.mem_of_getElem? ht
 have hall:([66,22,23].all fun u=>!Tryz.prog.wantsStandIn u)=true:=by kernel_rfl
 exact (show Tryz.prog.wantsStandIn t=false by simpa using List.all_eq_true.1 hall t hm)
end SlabPlays
theorem slabPlays_card:Rows.SlabPlaysCardSaid:=
 Claim7.holds_tied_plain_at .later [] _ _ _ _ SlabPlays.said (fun _ h=>by cases h) (by kernel_rfl) (fun _ h=>by cases h) slabPlays_row_tie rfl ⟨rfl,rfl⟩ (by kernel_rfl) rfl SlabPlays.plain (by kernel_rfl)
#print axioms slabPlays_card
end Go.Proofs.YthegnmanjdlmjaaGreatDoor
