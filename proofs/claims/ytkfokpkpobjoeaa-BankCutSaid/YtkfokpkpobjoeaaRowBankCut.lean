/- BankCut: the given statement, proved. -/
import Derived.Test.YtkfokpkpobjoeaaBkRow
namespace Go.Proofs.Ytkfokpkpobjoeaa
open Go.Sh Go.RowKit Go.ChangeShapes Go.WideShapes Go.ChangeAt
set_option linter.unusedSimpArgs false
set_option linter.unusedVariables false

set_option maxRecDepth 100000 in
theorem bankCut_lifted (os : Os) (started : os.Started) (H : Type) (enc : TypeId × Value → H) :
    ReturnsInHanded {} Try.checked os 8 .any (Rows.bankCutSpec.pre6 enc Try.prog Try.f8 Rows.bankCutRow.domain false) (Rows.bankCutSpec.post enc Try.prog Try.f8 false true false false) := by
  refine returnsInHanded_of_change (C := Try.checked) own started (by kernel_rfl) Try.func8
    (ChangeSpec.witness6 (enc := enc) (C := Try.checked) false ⟨#[], #[.int .i64 0, .slice none 0 0], []⟩ 8 (by kernel_rfl) (by kernel_rfl) (by kernel_rfl) (by kernel_rfl)) ?_
  intro W base args ds gs before hval hW hcnd _
  have hW' := hW
  obtain ⟨p, q, hA0, hV, rfl, hfz, hnd⟩ := hW
  have hA : DataW.TrodAll enc Try.prog W 0 (fun _ => true) true Try.f8.params.toList args.toList ds p := hA0
  rw [Try.params8] at hA hval
  obtain ⟨v0, v1, d0, d1, p0, p1, rfl, rfl, rfl, h0, h1⟩ := trodAll_two hA
  obtain ⟨fuel0, h0⟩ := h0
  obtain ⟨n0, rfl, nr0⟩ := okIntR (hval 0 3 _ rfl rfl) (In_of_trod h0)
  obtain ⟨fuel1, h1⟩ := h1
  obtain ⟨a1, l1, c1, ms1, hv1, hl1, hc1, hs1⟩ := acts10_of (In_of_trod h1)
  obtain ⟨a1', l1', c1', rfl⟩ := okWide_slice Try.underlying59 (hval 1 59 _ rfl rfl)
  obtain ⟨rfl, rfl, rfl⟩ : a1' = a1 ∧ l1' = l1 ∧ c1' = c1 := by simpa [Value.cells] using hv1
  have hm : maxLen ≤ 9223372036854775807 := by decide +kernel
  have key : law10_BankCut.W #[.int .i64 n0, .slice a1' l1' c1'] (fun v h' => v = .bool true ∧ Keep (hp W) h') (hp W) := by
    refine (law10_BankCut.W_eq _ _ _ _ _ _).mpr ?_
    exact bankCut (h := hp W) nr0.2 hs1 hl1 fun h' k => ⟨rfl, k⟩
  refine (FnGood.calls law10_BankCut.good Try.call8 key).mono fun e W' h => ?_
  obtain ⟨v, rfl, ⟨rfl, k⟩, st⟩ := h
  exact ⟨_, rfl, post_true laidOut (by decide +kernel) rfl rfl rfl rfl rfl Try.underlying4 hW' (k.below st)⟩
theorem bankCut_holds : Rows.BankCutSaid :=
  OpenClaim.holds_of_wide 8 Try.f8 rfl rfl rfl rfl rfl rfl rfl ⟨rfl, rfl, rfl, rfl, rfl⟩ rfl rfl rfl rfl rfl (by kernel_rfl) Try.func8 (by kernel_rfl)
    (of_decide_eq_true (by kernel_rfl)) (by unfold Func.isWrapper; first | (rw [if_pos (by decide +kernel)]; kernel_rfl) | (rw [if_neg (by decide +kernel)]; exact ⟨rfl, rfl⟩))
    (fun os started H enc _ => bankCut_lifted os started H enc)
#print axioms bankCut_holds
end Go.Proofs.Ytkfokpkpobjoeaa
