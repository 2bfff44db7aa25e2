/- BankSteps: the given statement, proved. -/
import Derived.Test.YtkfokpkpobjoeaaBkRow
namespace Go.Proofs.Ytkfokpkpobjoeaa
open Go.Sh Go.RowKit Go.ChangeShapes Go.WideShapes Go.ChangeAt
set_option linter.unusedSimpArgs false
set_option linter.unusedVariables false

set_option maxRecDepth 100000 in
theorem bankSteps_lifted (os : Os) (started : os.Started) (H : Type) (enc : TypeId × Value → H) :
    ReturnsInHanded {} Try.checked os 12 .any (Rows.bankStepsSpec.pre6 enc Try.prog Try.f12 Rows.bankStepsRow.domain false) (Rows.bankStepsSpec.post enc Try.prog Try.f12 false true false false) := by
  refine returnsInHanded_of_change (C := Try.checked) own started (by kernel_rfl) Try.func12
    (ChangeSpec.witness6 (enc := enc) (C := Try.checked) false ⟨#[], #[.slice none 0 0], []⟩ 8 (by kernel_rfl) (by kernel_rfl) (by kernel_rfl) (by kernel_rfl)) ?_
  intro W base args ds gs before hval hW hcnd _
  have hW' := hW
  obtain ⟨p, q, hA0, hV, rfl, hfz, hnd⟩ := hW
  have hA : DataW.TrodAll enc Try.prog W 0 (fun _ => true) true Try.f12.params.toList args.toList ds p := hA0
  rw [Try.params12] at hA hval
  obtain ⟨v0, d0, rfl, rfl, h0⟩ := trodAll_one hA
  obtain ⟨fuel0, h0⟩ := h0
  obtain ⟨a0, l0, c0, ms0, hv0, hl0, hc0, hs0⟩ := acts10_of (In_of_trod h0)
  obtain ⟨a0', l0', c0', rfl⟩ := okWide_slice Try.underlying59 (hval 0 59 _ rfl rfl)
  obtain ⟨rfl, rfl, rfl⟩ : a0' = a0 ∧ l0' = l0 ∧ c0' = c0 := by simpa [Value.cells] using hv0
  have hm : maxLen ≤ 9223372036854775807 := by decide +kernel
  have key : law10_BankSteps.W #[.slice a0' l0' c0'] (fun v h' => v = .bool true ∧ Keep (hp W) h') (hp W) := by
    refine (law10_BankSteps.W_eq _ _ _ _ _).mpr ?_
    exact bankSteps (h := hp W) hs0 hl0 fun h' k => ⟨rfl, k⟩
  refine (FnGood.calls law10_BankSteps.good Try.call12 key).mono fun e W' h => ?_
  obtain ⟨v, rfl, ⟨rfl, k⟩, st⟩ := h
  exact ⟨_, rfl, post_true laidOut (by decide +kernel) rfl rfl rfl rfl rfl Try.underlying4 hW' (k.below st)⟩
theorem bankSteps_holds : Rows.BankStepsSaid :=
  OpenClaim.holds_of_wide 12 Try.f12 rfl rfl rfl rfl rfl rfl rfl ⟨rfl, rfl, rfl, rfl, rfl⟩ rfl rfl rfl rfl rfl (by kernel_rfl) Try.func12 (by kernel_rfl)
    (of_decide_eq_true (by kernel_rfl)) (by unfold Func.isWrapper; first | (rw [if_pos (by decide +kernel)]; kernel_rfl) | (rw [if_neg (by decide +kernel)]; exact ⟨rfl, rfl⟩))
    (fun os started H enc _ => bankSteps_lifted os started H enc)
#print axioms bankSteps_holds
end Go.Proofs.Ytkfokpkpobjoeaa
