/- LayoutRounds: the given statement, proved. -/
import Derived.Test.YtgkebmhkmedadaaDoorShR
import Derived.Test.YtgkebmhkmedadaaDoorShL7
namespace Go.Proofs.YtgkebmhkmedadaaDoor
open Go.Sh Go.RowKit Go.ChangeShapes Go.WideShapes Go.ChangeAt
set_option linter.unusedSimpArgs false
set_option linter.unusedVariables false

namespace LayoutRounds
theorem contract (H : Type) (enc : TypeId × Value → H) (W : World) (base : Nat) (args : Array Value) (ds gs : List (DataW H)) (before : List MemPlace)
    (hval : ∀ (j : Nat) t v, Tryd.f7.params[j]? = some t → args[j]? = some v → Value.okWide Tryd.prog W .any base t v)
    (hW : DataW.Whole enc Tryd.prog Tryd.f7.params.toList Rows.layoutRoundsSpec.vars false W args.toList ds gs before) (hL : laidMetH Tryd.prog Rows.layoutRoundsRow.laid W) :
    Calls Tryd.prog 7 args W fun e W' => ∃ v, e = .returned v ∧ Rows.layoutRoundsSpec.post enc Tryd.prog Tryd.f7 false true false false W args v W' := by
  have hW' := hW
  obtain ⟨p, q, hA0, hV, rfl, hfz, hnd⟩ := hW
  have hA : DataW.TrodAll enc Tryd.prog W 0 (fun _ => true) true Tryd.f7.params.toList args.toList ds p := hA0
  rw [Tryd.params7] at hA hval
  obtain ⟨v0, d0, rfl, rfl, h0⟩ := trodAll_one hA
  obtain ⟨a0, b0, c0, g0, rfl⟩ := raw_arg (hval 0 23 _ rfl rfl) h0
  have key : law18_LayoutRounds.W #[.agg #[.int .i64 a0, .int .i64 b0, .int .i64 c0, .bool g0]] (fun v h' => v = .bool true ∧ Keep (hp W) h') (hp W) := by
    rw [law18_LayoutRounds.W_eq]
    exact layoutRounds (h := hp W) (laid_sizes hL) fun h' k => ⟨rfl, k⟩
  refine (FnGood.calls law18_LayoutRounds.good Tryd.call7 key).mono fun e W' h => ?_
  obtain ⟨v, rfl, ⟨rfl, k⟩, st⟩ := h
  exact ⟨_, rfl, post_true Tryd.laidOut (by decide +kernel) rfl rfl rfl rfl rfl Tryd.underlying4 hW' (k.below st)⟩
theorem laid_met (os : Os) : laidMet Tryd.prog Rows.layoutRoundsRow.laid ((laidWorld os).forCall (fun _ _ => 0) ⟨#[], #[.agg #[.int .i64 0, .int .i64 0, .int .i64 0, .bool false]], []⟩).memory :=
  laidMet_of_run' 8 (by kernel_rfl) (by kernel_rfl)
theorem reads (os : Os) {H : Type} (enc : TypeId × Value → H) : ∃ places, DataW.whole enc Tryd.prog ((laidWorld os).forCall (fun _ _ => 0) ⟨#[], #[.agg #[.int .i64 0, .int .i64 0, .int .i64 0, .bool false]], []⟩).memory Tryd.f7.params.toList Rows.layoutRoundsSpec.vars false (#[.agg #[.int .i64 0, .int .i64 0, .int .i64 0, .bool false]] : Array Value).toList 8 = some ([.agg [.lit (.int .i64 0), .lit (.int .i64 0), .lit (.int .i64 0), .lit (.bool false)]], [], places) :=
  ⟨[], by kernel_rfl⟩
set_option maxRecDepth 100000 in
theorem lifted (os : Os) (started : os.Started) (H : Type) (enc : TypeId × Value → H) (F : Stop.Interp) :
    ReturnsInHanded {} Tryd.checked os 7 .any ((OpenSpec.ofChange Rows.layoutRoundsSpec).preRow enc Tryd.prog Tryd.f7 Rows.layoutRoundsRow.domain false Rows.layoutRoundsRow.laid) (((OpenSpec.ofChange Rows.layoutRoundsSpec).at F).post enc Tryd.prog Tryd.f7 false true false false) := by
  obtain ⟨places, hx⟩ := reads os enc
  refine returnsInHanded_of_row (C := Tryd.checked) (s := OpenSpec.ofChange Rows.layoutRoundsSpec) Tryd.own started (by kernel_rfl) Tryd.func7
    (witness_row_at (enc := enc) (C := Tryd.checked) false (laidWorld os) #[.agg #[.int .i64 0, .int .i64 0, .int .i64 0, .bool false]] rfl (by kernel_rfl) (by kernel_rfl) (by kernel_rfl)
      (OpenSpec.preRow_of_cond 8 hx (by kernel_rfl) (fun k hk => by cases hk) (by kernel_rfl) (laid_met os))) ?_
  intro W base args ds gs before hval hW _ _ _ hL _ _
  exact contract H enc W base args ds gs before hval hW hL
theorem said : Rows.LayoutRoundsSaid :=
  OpenClaim.holds_of_cond 7 Tryd.f7 rfl rfl rfl rfl rfl rfl rfl ⟨rfl, rfl, rfl, rfl, rfl⟩ rfl rfl rfl rfl rfl (by kernel_rfl) Tryd.func7 (by kernel_rfl)
    (of_decide_eq_true (by kernel_rfl)) (by unfold Func.isWrapper; first | (rw [if_pos (by decide +kernel)]; kernel_rfl) | (rw [if_neg (by decide +kernel)]; exact ⟨rfl, rfl⟩))
    (fun os started H enc _ F => by rw [OpenClaim.pre_eq_preRow]; exact lifted os started H enc F)
theorem plain (f : FuncId) (fn : Func) (hf : Tryd.pinned.checked.prog.funcNamed "cofferdam/cofferdamlaw18.LayoutRounds" = some f) (hfn : Tryd.pinned.checked.prog.funcs[f]? = some fn) :
    false = Tryd.pinned.checked.prog.looks [] ∧ ∀ (j : Nat) t, fn.params[j]? = some t → Tryd.pinned.checked.prog.wantsStandIn t = false := by
  obtain rfl : f = 7 := Option.some.inj ((show Tryd.prog.funcNamed "cofferdam/cofferdamlaw18.LayoutRounds" = some 7 by kernel_rfl).symm.trans hf) |>.symm
  obtain rfl : fn = Tryd.f7 := (Option.some.inj (Tryd.func7.symm.trans hfn)).symm
  refine ⟨by kernel_rfl, fun j t ht => ?_⟩
  rw [Tryd.params7] at ht
  have hm : t ∈ [23] := by simpa using Array.mem_of_getElem? ht
  have hall : ([23].all fun u => !Tryd.prog.wantsStandIn u) = true := by kernel_rfl
  exact (show Tryd.prog.wantsStandIn t = false by simpa using List.all_eq_true.1 hall t hm)
end LayoutRounds
theorem layoutRounds_card : Rows.LayoutRoundsCardSaid :=
  Claim7.holds_tied_plain_at .later [] _ _ _ _ LayoutRounds.said (fun _ h => by cases h) (by kernel_rfl) (fun _ h => by cases h) layoutRounds_row_tie rfl ⟨rfl, rfl⟩ (by kernel_rfl) rfl LayoutRounds.plain (by kernel_rfl)
#print axioms layoutRounds_card
end Go.Proofs.YtgkebmhkmedadaaDoor
