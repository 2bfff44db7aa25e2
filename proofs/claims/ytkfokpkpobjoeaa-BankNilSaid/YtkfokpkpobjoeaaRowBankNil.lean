/- BankNil: the given statement, proved. -/
import Derived.Test.YtkfokpkpobjoeaaBkRow
namespace Go.Proofs.Ytkfokpkpobjoeaa
open Go.Sh Go.RowKit Go.ChangeShapes Go.WideShapes Go.ChangeAt
set_option linter.unusedSimpArgs false
set_option linter.unusedVariables false

set_option maxRecDepth 100000 in
theorem bankNil_lifted (os : Os) (started : os.Started) (H : Type) (enc : TypeId × Value → H) :
    ReturnsInHanded {} Try.checked os 9 .any (Rows.bankNilSpec.pre6 enc Try.prog Try.f9 Rows.bankNilRow.domain false) (Rows.bankNilSpec.post enc Try.prog Try.f9 false true false false) := by
  refine returnsInHanded_of_change (C := Try.checked) own started (by kernel_rfl) Try.func9
    (ChangeSpec.witness6 (enc := enc) (C := Try.checked) false ⟨#[], #[.agg #[.int .i64 0, .int .i64 0, .int .i64 0, .string .empty, .slice none 0 0, .bool false]], []⟩ 8 (by kernel_rfl) (by kernel_rfl) (by kernel_rfl) (by kernel_rfl)) ?_
  intro W base args ds gs before hval hW hcnd _
  have hW' := hW
  obtain ⟨p, q, hA0, hV, rfl, hfz, hnd⟩ := hW
  have hA : DataW.TrodAll enc Try.prog W 0 (fun _ => true) true Try.f9.params.toList args.toList ds p := hA0
  rw [Try.params9] at hA hval
  obtain ⟨v0, d0, rfl, rfl, h0⟩ := trodAll_one hA
  obtain ⟨fuel0, h0⟩ := h0
  obtain ⟨cs0, rfl⟩ := okWide_agg (P := Try.prog) (by rw [Try.underlying65]; rfl) (hval 0 65 _ rfl rfl)
  obtain ⟨m0, hm0, ha0⟩ := actm10_of (In_of_trod h0)
  obtain rfl : cs0 = m0.cells.toArray := by rw [← Array.toList_inj]; exact hm0
  have hm : maxLen ≤ 9223372036854775807 := by decide +kernel
  have key : law10_BankNil.W #[.agg m0.cells.toArray] (fun v h' => v = .bool true ∧ Keep (hp W) h') (hp W) := by
    refine (law10_BankNil.W_eq _ _ _ _ _ _ _ _ _ _).mpr ?_
    exact bankNil (h := hp W) fun h' k => ⟨rfl, k⟩
  refine (FnGood.calls law10_BankNil.good Try.call9 key).mono fun e W' h => ?_
  obtain ⟨v, rfl, ⟨rfl, k⟩, st⟩ := h
  exact ⟨_, rfl, post_true laidOut (by decide +kernel) rfl rfl rfl rfl rfl Try.underlying4 hW' (k.below st)⟩
theorem bankNil_holds : Rows.BankNilSaid :=
  OpenClaim.holds_of_wide 9 Try.f9 rfl rfl rfl rfl rfl rfl rfl ⟨rfl, rfl, rfl, rfl, rfl⟩ rfl rfl rfl rfl rfl (by kernel_rfl) Try.func9 (by kernel_rfl)
    (of_decide_eq_true (by kernel_rfl)) (by unfold Func.isWrapper; first | (rw [if_pos (by decide +kernel)]; kernel_rfl) | (rw [if_neg (by decide +kernel)]; exact ⟨rfl, rfl⟩))
    (fun os started H enc _ => bankNil_lifted os started H enc)
#print axioms bankNil_holds
end Go.Proofs.Ytkfokpkpobjoeaa
