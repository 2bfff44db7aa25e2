/- BankPlays: the given statement, proved. -/
import Derived.Test.YtkfokpkpobjoeaaBkRow
namespace Go.Proofs.Ytkfokpkpobjoeaa
open Go.Sh Go.RowKit Go.ChangeShapes Go.WideShapes Go.ChangeAt
set_option linter.unusedSimpArgs false
set_option linter.unusedVariables false

set_option maxRecDepth 100000 in
theorem bankPlays_lifted (os : Os) (started : os.Started) (H : Type) (enc : TypeId × Value → H) :
    ReturnsInHanded {} Try.checked os 11 .any (Rows.bankPlaysSpec.pre6 enc Try.prog Try.f11 Rows.bankPlaysRow.domain false) (Rows.bankPlaysSpec.post enc Try.prog Try.f11 false true false false) := by
  refine returnsInHanded_of_change (C := Try.checked) own started (by kernel_rfl) Try.func11
    (ChangeSpec.witness6 (enc := enc) (C := Try.checked) false ⟨#[], #[.int .i64 0, .int .i64 0, .slice none 0 0], []⟩ 8 (by kernel_rfl) (by kernel_rfl) (by kernel_rfl) (by kernel_rfl)) ?_
  intro W base args ds gs before hval hW hcnd _
  have hW' := hW
  obtain ⟨p, q, hA0, hV, rfl, hfz, hnd⟩ := hW
  have hA : DataW.TrodAll enc Try.prog W 0 (fun _ => true) true Try.f11.params.toList args.toList ds p := hA0
  rw [Try.params11] at hA hval
  obtain ⟨v0, v1, v2, d0, d1, d2, p0, p1, p2, rfl, rfl, rfl, h0, h1, h2⟩ := trodAll_three hA
  obtain ⟨n0, rfl⟩ := okInt (hval 0 3 _ rfl rfl)
  obtain ⟨n1, rfl⟩ := okInt (hval 1 3 _ rfl rfl)
  obtain ⟨fuel2, h2⟩ := h2
  obtain ⟨a2, l2, c2, ms2, hv2, hl2, hc2, hs2⟩ := acts10_of (In_of_trod h2)
  obtain ⟨a2', l2', c2', rfl⟩ := okWide_slice Try.underlying59 (hval 2 59 _ rfl rfl)
  obtain ⟨rfl, rfl, rfl⟩ : a2' = a2 ∧ l2' = l2 ∧ c2' = c2 := by simpa [Value.cells] using hv2
  have hm : maxLen ≤ 9223372036854775807 := by decide +kernel
  have key : law10_BankPlays.W #[.int .i64 n0, .int .i64 n1, .slice a2' l2' c2'] (fun v h' => v = .bool true ∧ Keep (hp W) h') (hp W) := by
    refine (law10_BankPlays.W_eq _ _ _ _ _ _ _).mpr ?_
    exact bankPlays (h := hp W) hs2 hl2 fun h' k => ⟨rfl, k⟩
  refine (FnGood.calls law10_BankPlays.good Try.call11 key).mono fun e W' h => ?_
  obtain ⟨v, rfl, ⟨rfl, k⟩, st⟩ := h
  exact ⟨_, rfl, post_true laidOut (by decide +kernel) rfl rfl rfl rfl rfl Try.underlying4 hW' (k.below st)⟩
theorem bankPlays_holds : Rows.BankPlaysSaid :=
  OpenClaim.holds_of_wide 11 Try.f11 rfl rfl rfl rfl rfl rfl rfl ⟨rfl, rfl, rfl, rfl, rfl⟩ rfl rfl rfl rfl rfl (by kernel_rfl) Try.func11 (by kernel_rfl)
    (of_decide_eq_true (by kernel_rfl)) (by unfold Func.isWrapper; first | (rw [if_pos (by decide +kernel)]; kernel_rfl) | (rw [if_neg (by decide +kernel)]; exact ⟨rfl, rfl⟩))
    (fun os started H enc _ => bankPlays_lifted os started H enc)
#print axioms bankPlays_holds
end Go.Proofs.Ytkfokpkpobjoeaa
