/- DiskLasts: the given statement, proved. -/
import Derived.Test.YtkfokpkpobjoeaaDkRow
import Derived.Test.YtkfokpkpobjoeaaDkG
import Derived.Test.YtkfokpkpobjoeaaDkH
namespace Go.Proofs.Ytkfokpkpobjoeaa
open Go.Sh Go.RowKit Go.ChangeShapes Go.WideShapes Go.ChangeAt
set_option linter.unusedSimpArgs false
set_option linter.unusedVariables false

set_option maxRecDepth 100000 in
theorem diskLasts_lifted (os : Os) (started : os.Started) (H : Type) (enc : TypeId × Value → H) :
    ReturnsInHanded {} Try.checked os 3 .any (Rows.diskLastsSpec.pre6 enc Try.prog Try.f3 Rows.diskLastsRow.domain false) (Rows.diskLastsSpec.post enc Try.prog Try.f3 false true false false) := by
  refine returnsInHanded_of_change (C := Try.checked) own started (by kernel_rfl) Try.func3
    (ChangeSpec.witness6 (enc := enc) (C := Try.checked) false ⟨#[], #[.slice none 0 0, .slice none 0 0, .slice none 0 0], []⟩ 8 (by kernel_rfl) (by kernel_rfl) (by kernel_rfl) (by kernel_rfl)) ?_
  intro W base args ds gs before hval hW hcnd _
  have hW' := hW
  obtain ⟨p, q, hA0, hV, rfl, hfz, hnd⟩ := hW
  have hA : DataW.TrodAll enc Try.prog W 0 (fun _ => true) true Try.f3.params.toList args.toList ds p := hA0
  rw [Try.params3] at hA hval
  obtain ⟨v0, v1, v2, d0, d1, d2, p0, p1, p2, rfl, rfl, rfl, h0, h1, h2⟩ := trodAll_three hA
  obtain ⟨fuel0, h0⟩ := h0
  obtain ⟨a0, l0, c0, ms0, hv0, hl0, hc0, hs0⟩ := texts_of (In_of_trod h0)
  obtain ⟨a0', l0', c0', rfl⟩ := okWide_slice Try.underlying22 (hval 0 22 _ rfl rfl)
  obtain ⟨rfl, rfl, rfl⟩ : a0' = a0 ∧ l0' = l0 ∧ c0' = c0 := by simpa [Value.cells] using hv0
  obtain ⟨fuel1, h1⟩ := h1
  obtain ⟨a1, l1, c1, ms1, hv1, hl1, hc1, hs1⟩ := acts_of (In_of_trod h1)
  obtain ⟨a1', l1', c1', rfl⟩ := okWide_slice Try.underlying23 (hval 1 23 _ rfl rfl)
  obtain ⟨rfl, rfl, rfl⟩ : a1' = a1 ∧ l1' = l1 ∧ c1' = c1 := by simpa [Value.cells] using hv1
  obtain ⟨fuel2, h2⟩ := h2
  obtain ⟨a2, l2, c2, ms2, hv2, hl2, hc2, hs2⟩ := bools_of (In_of_trod h2)
  obtain ⟨a2', l2', c2', rfl⟩ := okWide_slice Try.underlying24 (hval 2 24 _ rfl rfl)
  obtain ⟨rfl, rfl, rfl⟩ : a2' = a2 ∧ l2' = l2 ∧ c2' = c2 := by simpa [Value.cells] using hv2
  have hm : maxLen ≤ 9223372036854775807 := by decide +kernel
  have key : law09_DiskLasts.W #[.slice a0' l0' c0', .slice a1' l1' c1', .slice a2' l2' c2'] (fun v h' => v = .bool true ∧ Keep (hp W) h') (hp W) := by
    refine (law09_DiskLasts.W_eq _ _ _ _ _ _ _ _ _ _ _).mpr ?_
    exact lasts (h := hp W) hs0 hl0 hs1 hl1 hs2.1 hs2.2.1 hs2.2.2 hl2 fun h' k => ⟨rfl, k⟩
  refine (FnGood.calls law09_DiskLasts.good Try.call3 key).mono fun e W' h => ?_
  obtain ⟨v, rfl, ⟨rfl, k⟩, st⟩ := h
  exact ⟨_, rfl, post_true laidOut (by decide +kernel) rfl rfl rfl rfl rfl Try.underlying4 hW' (k.below st)⟩
theorem diskLasts_holds : Rows.DiskLastsSaid :=
  OpenClaim.holds_of_wide 3 Try.f3 rfl rfl rfl rfl rfl rfl rfl ⟨rfl, rfl, rfl, rfl, rfl⟩ rfl rfl rfl rfl rfl (by kernel_rfl) Try.func3 (by kernel_rfl)
    (of_decide_eq_true (by kernel_rfl)) (by unfold Func.isWrapper; first | (rw [if_pos (by decide +kernel)]; kernel_rfl) | (rw [if_neg (by decide +kernel)]; exact ⟨rfl, rfl⟩))
    (fun os started H enc _ => diskLasts_lifted os started H enc)
#print axioms diskLasts_holds
end Go.Proofs.Ytkfokpkpobjoeaa
