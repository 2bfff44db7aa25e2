/- AnchorPlays: the given statement, proved. -/
import Derived.Test.YtgkebmhkmedadaaShP2
namespace Go.Proofs.Ytgkebmhkmedadaa
open Go.Sh Go.RowKit Go.ChangeShapes Go.WideShapes Go.ChangeAt

theorem Try.own : ownKnob Try.prog.godebug = none := by kernel_rfl
theorem Try.laidOut : laidOutB Try.prog = true := by kernel_rfl
theorem u8_of {P : Program} {h : H} {f : Nat} {t : TypeId} {cs : List Value} (ht : P.underlying t = some (.int .u8)) (hi : In P h f t cs) : ∃ n, cs = [.int .u8 n] := by
  cases f with
  | zero => exact hi.elim
  | succ f =>
    unfold In at hi
    rw [ht] at hi
    obtain ⟨n, hn, _⟩ := hi
    exact ⟨n, hn⟩
/-- An array of bytes. -/
theorem bytes_of {P : Program} {h : H} {f : Nat} {t e : TypeId} {n : Nat} {cs : List Value} (ht : P.underlying t = some (.array n e)) (he : P.underlying e = some (.int .u8)) (h1 : P.cellsOf e = 1) (hn : P.cellsOf t = n) (hi : In P h f t cs) :
    ∃ zs : List Int, zs.length = n ∧ cs = zs.map (Value.int .u8) := by
  cases f with
  | zero => exact hi.elim
  | succ f =>
    unfold In at hi
    rw [ht] at hi
    obtain ⟨hl, hi⟩ := hi
    rw [hn] at hl
    have key : ∀ i, i < n → ∃ z, cs[i]? = some (Value.int .u8 z) := by
      intro i hin
      obtain ⟨z, hz⟩ := u8_of he (hi i hin)
      rw [h1, Nat.mul_one] at hz
      refine ⟨z, ?_⟩
      have : ((cs.drop i).take 1)[0]? = some (Value.int .u8 z) := by rw [hz]; rfl
      simpa using this
    refine ⟨cs.map fun v => match v with | .int _ z => z | _ => 0, by simpa using hl, ?_⟩
    apply List.ext_getElem?
    intro i
    by_cases hin : i < n
    · obtain ⟨z, hz⟩ := key i hin
      simp [hz]
    · rw [List.getElem?_eq_none (by omega), List.getElem?_eq_none (by simp; omega)]
theorem drop_take (cs : List Value) (a k b : Nat) (e : a + k = b) : cs.drop a = (cs.drop a).take k ++ cs.drop b := by
  conv => lhs; rw [← List.take_append_drop k (cs.drop a)]
  rw [List.drop_drop, e]
theorem call_of {h : H} {f : Nat} {cs : List Value} (hi : In Try.prog h f 32 cs) : ∃ n zs t odd, CallRow cs n zs t odd := by
  cases f with
  | zero => exact hi.elim
  | succ f =>
    unfold In at hi
    rw [Try.underlying32] at hi
    obtain ⟨hl, hi⟩ := hi
    rw [show Try.prog.cellsOf 32 = 35 by decide +kernel] at hl
    simp only [List.mem_cons, List.not_mem_nil, or_false, forall_eq_or_imp, forall_eq] at hi
    obtain ⟨h0, h1, h2, h3⟩ := hi
    rw [show Try.prog.cellsOf 26 = 1 by decide +kernel] at h0
    rw [show Try.prog.cellsOf 30 = 32 by decide +kernel] at h1
    rw [show Try.prog.cellsOf 9 = 1 by decide +kernel] at h2
    rw [show Try.prog.cellsOf 4 = 1 by decide +kernel] at h3
    have b0 : ∃ n, (cs.drop 0).take 1 = [Value.int .u64 n] := by
      cases f with
      | zero => exact h0.elim
      | succ f => unfold In at h0; rw [Try.underlying26] at h0; obtain ⟨n, hn, _⟩ := h0; exact ⟨n, hn⟩
    have b2 : ∃ t, (cs.drop 33).take 1 = [Value.string t] := by
      cases f with
      | zero => exact h0.elim
      | succ f => unfold In at h2; rw [Try.underlying9] at h2; obtain ⟨n, hn, _⟩ := h2; exact ⟨n, hn⟩
    have b3 : ∃ b, (cs.drop 34).take 1 = [Value.bool b] := by
      cases f with
      | zero => exact h0.elim
      | succ f => unfold In at h3; rw [Try.underlying4] at h3; exact h3
    obtain ⟨n, b0⟩ := b0
    obtain ⟨t, b2⟩ := b2
    obtain ⟨odd, b3⟩ := b3
    obtain ⟨zs, hz, b1⟩ := bytes_of Try.underlying30 Try.underlying5 (by decide +kernel) (by decide +kernel) h1
    refine ⟨n, zs, t, odd, ?_, hz⟩
    have e : cs = (cs.drop 0).take 1 ++ ((cs.drop 1).take 32 ++ ((cs.drop 33).take 1 ++ ((cs.drop 34).take 1 ++ cs.drop 35))) := by
      rw [← drop_take cs 34 1 35 rfl, ← drop_take cs 33 1 34 rfl, ← drop_take cs 1 32 33 rfl, ← drop_take cs 0 1 1 rfl, List.drop_zero]
    rw [e, b0, b1, b2, b3, List.drop_eq_nil_of_le (by omega)]
    rfl
theorem script_of {h : H} {f : Nat} {cs : List Value} (hi : In Try.prog h f 22 cs) : ∃ a l c, cs = [Value.slice a l c] ∧ l ≤ c ∧ c ≤ maxLen ∧ (a = none → l = 0) ∧ Script h a l := by
  cases f with
  | zero => exact hi.elim
  | succ f =>
    unfold In at hi
    rw [Try.underlying22] at hi
    obtain ⟨a, l, c, rfl, h1, h2, h3, h4⟩ := hi
    refine ⟨a, l, c, rfl, h1, h2, fun hn => (h3 hn).1, fun b hb i hil => ?_⟩
    obtain ⟨r, _, hr, hin⟩ := h4 b hb i hil
    obtain ⟨n, zs, t, odd, hc⟩ := call_of hin
    rw [show Try.prog.cellsOf 32 = 35 by decide +kernel] at hr
    exact ⟨r, n, zs, t, odd, hr, hc⟩
theorem plays_calls (a : Option Addr) (l c : Nat) (W : World) (hl : l ≤ c) (hc : c ≤ maxLen) (hn : a = none → l = 0) (hs : Script (hp W) a l) :
    Calls Try.prog 3 #[.slice a l c] W fun e W' => e = .returned (.bool true) ∧ Below W.heap.size W W' := by
  have hm : maxLen ≤ 9223372036854775807 := by decide +kernel
  have key : law11_AnchorPlays.W #[.slice a l c] (fun v h' => v = .bool true ∧ Keep (hp W) h') (hp W) := by
    rw [law11_AnchorPlays.W_eq]
    exact plays hl (by omega) hn hs fun h' k => ⟨rfl, k⟩
  refine (FnGood.calls law11_AnchorPlays.good Try.call3 key).mono fun e W' h => ?_
  obtain ⟨v, rfl, ⟨rfl, k⟩, st⟩ := h
  exact ⟨rfl, k.below st⟩
set_option maxRecDepth 100000 in
theorem plays_lifted (os : Os) (started : os.Started) (H : Type) (enc : TypeId × Value → H) :
    ReturnsInHanded {} Try.checked os 3 .any (Rows.anchorPlaysSpec.pre6 enc Try.prog Try.f3 Rows.anchorPlaysRow.domain false) (Rows.anchorPlaysSpec.post enc Try.prog Try.f3 false true false false) := by
  refine returnsInHanded_of_change (C := Try.checked) Try.own started (by kernel_rfl) Try.func3
    (ChangeSpec.witness6 (enc := enc) (C := Try.checked) false ⟨#[], #[.slice none 0 0], []⟩ 8 (by kernel_rfl) (by kernel_rfl) (by kernel_rfl) (by kernel_rfl)) ?_
  intro W base args ds gs before hval0 hW hcnd _
  have hW' := hW
  obtain ⟨p, q, hA0, hV, rfl, hfz, hnd⟩ := hW
  have hA : DataW.TrodAll enc Try.prog W 0 (fun _ => true) true Try.f3.params.toList args.toList ds p := hA0
  rw [Try.params3] at hA
  obtain ⟨v0, d0, rfl, rfl, h0⟩ := trodAll_one hA
  obtain ⟨fuel, h0⟩ := h0
  obtain ⟨a, l, c, hv, hl, hc, hn, hs⟩ := script_of (In_of_trod h0)
  obtain ⟨a', l', c', rfl⟩ := okWide_slice Try.underlying22 (hval0 0 22 v0 rfl rfl)
  obtain ⟨rfl, rfl, rfl⟩ : a' = a ∧ l' = l ∧ c' = c := by simpa [Value.cells] using hv
  refine (plays_calls a' l' c' W hl hc hn hs).mono fun e W' h => ?_
  obtain ⟨rfl, hb⟩ := h
  exact ⟨_, rfl, post_true Try.laidOut (by decide +kernel) rfl rfl rfl rfl rfl Try.underlying4 hW' hb⟩
theorem plays_holds : Rows.AnchorPlaysSaid :=
  OpenClaim.holds_of_wide 3 Try.f3 rfl rfl rfl rfl rfl rfl rfl ⟨rfl, rfl, rfl, rfl, rfl⟩ rfl rfl rfl rfl rfl (by kernel_rfl) Try.func3 (by kernel_rfl)
    (of_decide_eq_true (by kernel_rfl)) (by unfold Func.isWrapper; first | (rw [if_pos (by decide +kernel)]; kernel_rfl) | (rw [if_neg (by decide +kernel)]; exact ⟨rfl, rfl⟩))
    (fun os started H enc _ => plays_lifted os started H enc)
#print axioms plays_holds
end Go.Proofs.Ytgkebmhkmedadaa
