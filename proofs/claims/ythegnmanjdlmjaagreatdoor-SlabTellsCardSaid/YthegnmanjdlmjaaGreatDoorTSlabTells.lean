/- SlabTells: the given statement, proved. -/
import Derived.Test.YthegnmanjdlmjaaGreatDoorT12
import Derived.Test.YthegnmanjdlmjaaGreatDoorT13
set_option linter.unusedSimpArgs false
set_option linter.unusedVariables false
namespace Go.Proofs.YthegnmanjdlmjaaGreatDoor
open Go.Sh Go.RowKit Go.ChangeShapes Go.WideShapes Go.ChangeAt
namespace SlabTells
set_option maxRecDepth 100000 in
theorem contract (H : Type) (enc : TypeId × Value → H) (W : World) (base : Nat) (args : Array Value) (ds gs : List (DataW H)) (before : List MemPlace)
    (hval : ∀ (j : Nat) t v, Tryz.f6.params[j]? = some t → args[j]? = some v → Value.okWide Tryz.prog W .any base t v)
    (hW : DataW.Whole enc Tryz.prog Tryz.f6.params.toList Rows.slabTellsSpec.vars false W args.toList ds gs before) (hL : laidMetH Tryz.prog Rows.slabTellsRow.laid W) :
    Calls Tryz.prog 6 args W fun e W' => ∃ v, e = .returned v ∧ Rows.slabTellsSpec.post enc Tryz.prog Tryz.f6 false true false false W args v W' := by
  have hW' := hW
  obtain ⟨p, q, hA0, hV, rfl, hfz, hnd⟩ := hW
  have hA : DataW.TrodAll enc Tryz.prog W 0 (fun _ => true) true Tryz.f6.params.toList args.toList ds p := hA0
  rw [Tryz.params6] at hA hval
  obtain ⟨v0, v1, v2, d0, d1, d2, p0, p1, p2, rfl, rfl, rfl, h0, h1, h2⟩ := trodAll_three hA
  obtain ⟨n0, rfl⟩ := okWide_int_is (hval 0 3 _ rfl rfl)
  obtain ⟨fuel1, h1⟩ := h1
  obtain ⟨cs1, rfl⟩ := okWide_agg (P := Tryz.prog) (by rw [Tryz.underlying22]; rfl) (hval 1 22 _ rfl rfl)
  obtain ⟨kz1, hz1, ek1, _⟩ := In_bytes Tryz.underlying22 Tryz.underlying5 (by decide +kernel) (by decide +kernel) (In_of_trod h1)
  obtain rfl : cs1 = (bvs kz1).toArray := by rw [← Array.toList_inj]; exact ek1
  obtain ⟨fuel2, h2⟩ := h2
  obtain ⟨a2, l2, c2, ms2, hv2, hl2, hs2⟩ := acts17_of (In_of_trod h2)
  obtain ⟨a2', l2', c2', rfl⟩ := okWide_slice Tryz.underlying23 (hval 2 23 _ rfl rfl)
  obtain ⟨rfl, rfl, rfl⟩ : a2' = a2 ∧ l2' = l2 ∧ c2' = c2 := by simpa [Value.cells] using hv2
  have key : law17_SlabTells.W #[.int .i64 n0, .agg (bvs kz1).toArray, .slice a2' l2' c2'] (fun v h' => v = .bool true ∧ Keep (hp W) h') (hp W) := by
    rw [law17_SlabTells.W_eq]
    exact slabTells (h := hp W) (laid_tabs hL) hz1 hs2 hl2 fun h' k => ⟨rfl, k⟩
  refine (FnGood.calls law17_SlabTells.good Tryz.call6 key).mono fun e W' h => ?_
  obtain ⟨v, rfl, ⟨rfl, k⟩, st⟩ := h
  exact ⟨_, rfl, post_true Tryz.laidOut (by decide +kernel) rfl rfl rfl rfl rfl Tryz.underlying4 hW' (k.below st)⟩
theorem laid_met (os : Os) : laidMet Tryz.prog Rows.slabTellsRow.laid ((laidWorld os).forCall (fun _ _ => 0) ⟨#[], #[.int .i64 0, .agg (bvs (List.replicate 32 0)).toArray, .slice none 0 0], []⟩).memory :=
  laidMet_of_run' 8 (by kernel_rfl) (by kernel_rfl)
theorem reads (os : Os) {H : Type} (enc : TypeId × Value → H) : ∃ places, DataW.whole enc Tryz.prog ((laidWorld os).forCall (fun _ _ => 0) ⟨#[], #[.int .i64 0, .agg (bvs (List.replicate 32 0)).toArray, .slice none 0 0], []⟩).memory Tryz.f6.params.toList Rows.slabTellsSpec.vars false (#[.int .i64 0, .agg (bvs (List.replicate 32 0)).toArray, .slice none 0 0] : Array Value).toList 8 = some ([.lit (.int .i64 0), .agg (List.replicate 32 (.lit (.int .u8 0))), .nil], [], places) :=
  ⟨[], by kernel_rfl⟩
set_option maxRecDepth 100000 in
theorem lifted (os : Os) (started : os.Started) (H : Type) (enc : TypeId × Value → H) (F : Stop.Interp) :
    ReturnsInHanded {} Tryz.checked os 6 .any ((OpenSpec.ofChange Rows.slabTellsSpec).preRow enc Tryz.prog Tryz.f6 Rows.slabTellsRow.domain false Rows.slabTellsRow.laid) (((OpenSpec.ofChange Rows.slabTellsSpec).at F).post enc Tryz.prog Tryz.f6 false true false false) := by
  obtain ⟨places, hx⟩ := reads os enc
  refine returnsInHanded_of_row (C := Tryz.checked) (s := OpenSpec.ofChange Rows.slabTellsSpec) Tryz.own started (by kernel_rfl) Tryz.func6
    (witness_row_at (enc := enc) (C := Tryz.checked) false (laidWorld os) #[.int .i64 0, .agg (bvs (List.replicate 32 0)).toArray, .slice none 0 0] rfl (by kernel_rfl) (by kernel_rfl) (by kernel_rfl)
      (OpenSpec.preRow_of_cond 8 hx (by kernel_rfl) (fun k hk => by cases hk) (by kernel_rfl) (laid_met os))) ?_
  intro W base args ds gs before hval hW _ _ _ hL _ _
  exact contract H enc W base args ds gs before hval hW hL
theorem k1 : Rows.slabTellsRow.wf (OpenSpec.ofChange Rows.slabTellsSpec) = true := by kernel_rfl
theorem k4 : Tryz.f6.params.all (Tryz.prog.readableRec ·) = true := by kernel_rfl
theorem k5 : namedTie Tryz.prog Rows.slabTellsRow.named Rows.slabTellsSpec.vars = true := by kernel_rfl
theorem k6 : (Rows.slabTellsRow.stops == []) = true := by kernel_rfl
theorem k8 : (Rows.slabTellsRow.knobs == []) = true := by kernel_rfl
theorem k10 : (Rows.slabTellsRow.inPlace == Tryz.prog.inPlace 6) = true := by kernel_rfl
theorem k11 : (Rows.slabTellsRow.unfollowed == Tryz.prog.unfollowed 6) = true := by kernel_rfl
theorem k12 : (Rows.slabTellsRow.recurses == Tryz.prog.recurses 6) = true := by kernel_rfl
theorem k13 : (Rows.slabTellsRow.named == Tryz.prog.varsNamed 6) = true := by kernel_rfl
theorem k14 : (Rows.slabTellsRow.maps == (Tryz.f6.params.toList ++ Rows.slabTellsSpec.plain.varTypes Tryz.prog).any (Tryz.prog.mapsRec ·)) = true := by kernel_rfl
theorem k15 : (Rows.slabTellsRow.ifaces == (Tryz.f6.params.toList ++ Rows.slabTellsSpec.plain.varTypes Tryz.prog).any (Tryz.prog.ifacesRec ·)) = true := by kernel_rfl
theorem k16 : (Rows.slabTellsRow.mapsOut == Tryz.prog.mapsAmong Tryz.f6.resultTypes.toList) = true := by kernel_rfl
theorem k17 : (Rows.slabTellsRow.loops == (Tryz.f6.params.toList ++ Rows.slabTellsSpec.plain.varTypes Tryz.prog).any (Tryz.prog.loopsFrom ·)) = true := by kernel_rfl
theorem k17b : (Rows.slabTellsRow.wideKeys == (Tryz.f6.params.toList ++ Rows.slabTellsSpec.plain.varTypes Tryz.prog ++ Tryz.f6.resultTypes.toList).any (Tryz.prog.wideKeysFrom ·)) = true := by kernel_rfl
theorem k18 : Rows.slabTellsSpec.vars.all (Tryz.prog.varReadable ·) = true := by kernel_rfl
theorem k19 : Tryz.f6.resultTypes.all (fun t => Tryz.prog.readableRec t && decide (t < Tryz.prog.types.size)) = true := by kernel_rfl
theorem k20 : (Rows.slabTellsRow.ifacesOut == Tryz.f6.resultTypes.toList.any (Tryz.prog.ifacesRec ·)) = true := by kernel_rfl
theorem k21 : (Rows.slabTellsRow.loopsOut == Tryz.f6.resultTypes.toList.any (Tryz.prog.loopsFrom ·)) = true := by kernel_rfl
theorem k23 : Rows.slabTellsRow.shortTexts.isNone = true := by kernel_rfl
theorem k25 : (Rows.slabTellsRow.kinds == (if Rows.slabTellsRow.domain.isEmpty then [] else Tryz.f6.params.toList.map fun t => match Tryz.prog.underlying t with | some (.int k) => some k | _ => none)) = true := by kernel_rfl
theorem k26 : (Rows.slabTellsRow.pinned == Rows.slabTellsRow.pinnedBy) = true := by kernel_rfl
theorem k27 : (Rows.slabTellsRow.veiled == (Tryz.f6.params.toList ++ Rows.slabTellsSpec.plain.varTypes Tryz.prog ++ Tryz.f6.resultTypes.toList).any (Tryz.prog.veiledRec ·)) = true := by kernel_rfl
theorem k28 : Rows.slabTellsRow.veiledFits Tryz.prog Tryz.f6.params.toList (Tryz.f6.params.toList ++ Rows.slabTellsSpec.plain.varTypes Tryz.prog ++ Tryz.f6.resultTypes.toList) = true := by kernel_rfl
set_option maxRecDepth 100000 in
theorem closed : joinedFacts Tryz.prog 6 Tryz.f6 Rows.slabTellsSpec Rows.slabTellsRow = true := facts_of k1 k4 k5 k6 k8 k10 k11 k12 k13 k14 k15 k16 k17 k17b k18 k19 k20 k21 rfl k23 rfl rfl k25 k26 k27 k28
set_option maxRecDepth 100000 in
theorem said : Rows.SlabTellsSaid :=
  OpenClaim.holds_of_cond 6 Tryz.f6 rfl rfl rfl rfl rfl rfl rfl ⟨rfl, rfl, rfl, rfl, rfl⟩ rfl rfl rfl rfl rfl (by kernel_rfl) Tryz.func6 closed
    (of_decide_eq_true (by kernel_rfl)) (by unfold Func.isWrapper; first | (rw [if_pos (by decide +kernel)]; kernel_rfl) | (rw [if_neg (by decide +kernel)]; exact ⟨rfl, rfl⟩))
    (fun os started H enc _ F => by rw [OpenClaim.pre_eq_preRow]; exact lifted os started H enc F)
theorem plain (f : FuncId) (fn : Func) (hf : Tryz.pinned.checked.prog.funcNamed "cofferdam/cofferdamlaw17.SlabTells" = some f) (hfn : Tryz.pinned.checked.prog.funcs[f]? = some fn) :
    false = Tryz.pinned.checked.prog.looks [] ∧ ∀ (j : Nat) t, fn.params[j]? = some t → Tryz.pinned.checked.prog.wantsStandIn t = false := by
  obtain rfl : f = 6 := Option.some.inj ((show Tryz.prog.funcNamed "cofferdam/cofferdamlaw17.SlabTells" = some 6 by kernel_rfl).symm.trans hf) |>.symm
  obtain rfl : fn = Tryz.f6 := (Option.some.inj (Tryz.func6.symm.trans hfn)).symm
  refine ⟨by kernel_rfl, fun j t ht => ?_⟩
  rw [Tryz.params6] at ht
  have hm : t ∈ [3, 22, 23] := by simpa using Array.mem_of_getElem? ht
  have hall : ([3, 22, 23].all fun u => !Tryz.prog.wantsStandIn u) = true := by kernel_rfl
  exact (show Tryz.prog.wantsStandIn t = false by simpa using List.all_eq_true.1 hall t hm)
end SlabTells
theorem slabTells_card : Rows.SlabTellsCardSaid :=
  Claim7.holds_tied_plain_at .later [] _ _ _ _ SlabTells.said (fun _ h => by cases h) (by kernel_rfl) (fun _ h => by cases h) slabTells_row_tie rfl ⟨rfl, rfl⟩ (by kernel_rfl) rfl SlabTells.plain (by kernel_rfl)
#print axioms slabTells_card
end Go.Proofs.YthegnmanjdlmjaaGreatDoor
