/- DiskDead: the given statement, proved. -/
import Derived.Test.YtkfokpkpobjoeaaDkRow
import Derived.Test.YtkfokpkpobjoeaaDkG
import Derived.Test.YtkfokpkpobjoeaaDkH
namespace Go.Proofs.Ytkfokpkpobjoeaa
open Go.Sh Go.RowKit Go.ChangeShapes Go.WideShapes Go.ChangeAt
set_option linter.unusedSimpArgs false
set_option linter.unusedVariables false

set_option maxRecDepth 100000 in
theorem diskDead_lifted (os : Os) (started : os.Started) (H : Type) (enc : TypeId × Value → H) :
    ReturnsInHanded {} Try.checked os 7 .any (Rows.diskDeadSpec.pre6 enc Try.prog Try.f7 Rows.diskDeadRow.domain false) (Rows.diskDeadSpec.post enc Try.prog Try.f7 false true false false) := by
  refine returnsInHanded_of_change (C := Try.checked) own started (by kernel_rfl) Try.func7
    (ChangeSpec.witness6 (enc := enc) (C := Try.checked) false ⟨#[], #[.agg #[.int .i64 0, .int .i64 0, .string .empty, .int .i64 0, .slice none 0 0, .bool false]], []⟩ 8 (by kernel_rfl) (by kernel_rfl) (by kernel_rfl) (by kernel_rfl)) ?_
  intro W base args ds gs before hval hW hcnd _
  have hW' := hW
  obtain ⟨p, q, hA0, hV, rfl, hfz, hnd⟩ := hW
  have hA : DataW.TrodAll enc Try.prog W 0 (fun _ => true) true Try.f7.params.toList args.toList ds p := hA0
  rw [Try.params7] at hA hval
  obtain ⟨v0, d0, rfl, rfl, h0⟩ := trodAll_one hA
  obtain ⟨fuel0, h0⟩ := h0
  obtain ⟨cs0, rfl⟩ := okWide_agg (P := Try.prog) (by rw [Try.underlying34]; rfl) (hval 0 34 _ rfl rfl)
  obtain ⟨m0, hm0, ha0⟩ := actm_of (In_of_trod h0)
  obtain rfl : cs0 = m0.cells.toArray := by rw [← Array.toList_inj]; exact hm0
  have hm : maxLen ≤ 9223372036854775807 := by decide +kernel
  have key : law09_DiskDead.W #[.agg m0.cells.toArray] (fun v h' => v = .bool true ∧ Keep (hp W) h') (hp W) := by
    refine (law09_DiskDead.W_eq _ _ _ _ _ _ _ _ _ _).mpr ?_
    exact dead (h := hp W) ha0 fun h' k => ⟨rfl, k⟩
  refine (FnGood.calls law09_DiskDead.good Try.call7 key).mono fun e W' h => ?_
  obtain ⟨v, rfl, ⟨rfl, k⟩, st⟩ := h
  exact ⟨_, rfl, post_true laidOut (by decide +kernel) rfl rfl rfl rfl rfl Try.underlying4 hW' (k.below st)⟩
theorem diskDead_holds : Rows.DiskDeadSaid :=
  OpenClaim.holds_of_wide 7 Try.f7 rfl rfl rfl rfl rfl rfl rfl ⟨rfl, rfl, rfl, rfl, rfl⟩ rfl rfl rfl rfl rfl (by kernel_rfl) Try.func7 (by kernel_rfl)
    (of_decide_eq_true (by kernel_rfl)) (by unfold Func.isWrapper; first | (rw [if_pos (by decide +kernel)]; kernel_rfl) | (rw [if_neg (by decide +kernel)]; exact ⟨rfl, rfl⟩))
    (fun os started H enc _ => diskDead_lifted os started H enc)
#print axioms diskDead_holds
end Go.Proofs.Ytkfokpkpobjoeaa
