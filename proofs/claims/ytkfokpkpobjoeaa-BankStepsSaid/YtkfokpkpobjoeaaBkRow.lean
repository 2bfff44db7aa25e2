/- What the bank's statements are given. -/
import Derived.Test.YtkfokpkpobjoeaaBkD
import Derived.Test.YtkfokpkpobjoeaaDkRow
namespace Go.Proofs.Ytkfokpkpobjoeaa
open Go.Sh Go.RowKit Go.ChangeShapes Go.WideShapes Go.ChangeAt
set_option linter.unusedSimpArgs false
set_option linter.unusedVariables false
section
variable {h : H} {f : Nat} {cs : List Value}
theorem blists_of (hi : In Try.prog h f 63 cs) : ∃ a l c, ∃ ks : List (List Bool), cs = [Value.slice a l c] ∧ l ≤ c ∧ c ≤ maxLen ∧ Lists h a l ks := by
  obtain ⟨f', a, l, c, rfl, h1, h2, h3, h4⟩ := In_slice Try.underlying63 hi
  cases a with
  | none => exact ⟨none, l, c, [], rfl, h1, h2, by simp [(h3 rfl).1], fun _ => (h3 rfl).1, fun b hb => by simp at hb⟩
  | some b =>
    have : ∀ i, i < l → ∃ ys : List Bool, ∃ ya yl yc, h.cell (b.add i) = some (.slice ya yl yc) ∧ ys.length = yl ∧ yl ≤ yc ∧ (ya = none → yl = 0) ∧ ∀ y, ya = some y → Sh.rowAt h y (ys.map Value.bool) := fun i hil => by
      obtain ⟨r, hr1, hr, hin⟩ := h4 b rfl i hil
      obtain ⟨ya, yl, yc, ys, rfl, g1, g2, g3, g4, g5⟩ := bools_of hin
      have := hr 0 (by simp)
      rw [show Try.prog.cellsOf 24 = 1 by decide +kernel, Nat.mul_one, Addr.add_zero'] at this
      exact ⟨ys, ya, yl, yc, this, g3, g1, g4, g5⟩
    obtain ⟨ks, hk, hks⟩ := list_of this
    refine ⟨some b, l, c, ks, rfl, h1, h2, hk, fun e => by simp at e, fun b' e i ys hys => ?_⟩
    simp only [Option.some.injEq] at e
    subst e
    exact hks i ys hys
theorem actm10_of (hi : In Try.prog h f 65 cs) : ∃ m : Act10, cs = m.cells ∧ Act10At h m := by
  obtain ⟨f', hl, hi⟩ := In_struct Try.underlying65 hi
  rw [show Try.prog.cellsOf 65 = 6 by decide +kernel] at hl
  simp only [List.mem_cons, List.not_mem_nil, or_false, forall_eq_or_imp, forall_eq] at hi
  obtain ⟨h0, h1, h2, h3, h4, h5⟩ := hi
  obtain ⟨n0, e0, _⟩ := In_int Try.underlying3 h0
  obtain ⟨n1, e1, _⟩ := In_int Try.underlying3 h1
  obtain ⟨n2, e2, hw2⟩ := In_int Try.underlying3 h2
  obtain ⟨s3, e3, hs⟩ := In_str Try.underlying9 h3
  obtain ⟨a, l, c, ks, e4, hlc, _, hls⟩ := blists_of h4
  obtain ⟨b5, e5⟩ := In_bool Try.underlying4 h5
  rw [show Try.prog.cellsOf 3 = 1 by decide +kernel] at e0 e1 e2
  rw [show Try.prog.cellsOf 9 = 1 by decide +kernel] at e3
  rw [show Try.prog.cellsOf 63 = 1 by decide +kernel] at e4
  rw [show Try.prog.cellsOf 4 = 1 by decide +kernel] at e5
  have hr : n2 ≤ 9223372036854775807 := by
    simp [Lit.wf, IntKind.min, IntKind.max, IntKind.signed, IntKind.bits] at hw2
    omega
  refine ⟨⟨n0, n1, n2, s3, a, l, c, b5, ks⟩, ?_, hlc, hls, hr⟩
  have e : cs = (cs.drop 0).take 1 ++ ((cs.drop 1).take 1 ++ ((cs.drop 2).take 1 ++ ((cs.drop 3).take 1 ++ ((cs.drop 4).take 1 ++ ((cs.drop 5).take 1 ++ cs.drop 6))))) := by
    rw [← drop_take cs 5 1 6 rfl, ← drop_take cs 4 1 5 rfl, ← drop_take cs 3 1 4 rfl, ← drop_take cs 2 1 3 rfl, ← drop_take cs 1 1 2 rfl, ← drop_take cs 0 1 1 rfl, List.drop_zero]
  rw [e, e0, e1, e2, e3, e4, e5, List.drop_eq_nil_of_le (by omega)]
  rfl
theorem acts10_of (hi : In Try.prog h f 59 cs) : ∃ a l c, ∃ ms : List Act10, cs = [Value.slice a l c] ∧ l ≤ c ∧ c ≤ maxLen ∧ Acts10 h a l ms := by
  obtain ⟨f', a, l, c, rfl, h1, h2, h3, h4⟩ := In_slice Try.underlying59 hi
  cases a with
  | none => exact ⟨none, l, c, [], rfl, h1, h2, by simp [(h3 rfl).1], fun _ => (h3 rfl).1, fun b hb => by simp at hb⟩
  | some b =>
    have : ∀ i, i < l → ∃ m : Act10, Sh.rowAt h (b.add (i * 6)) m.cells ∧ Act10At h m := fun i hil => by
      obtain ⟨r, hr1, hr, hin⟩ := h4 b rfl i hil
      obtain ⟨m, rfl, hm⟩ := actm10_of hin
      rw [show Try.prog.cellsOf 65 = 6 by decide +kernel] at hr
      exact ⟨m, hr, hm⟩
    obtain ⟨ms, hm, hms⟩ := list_of this
    refine ⟨some b, l, c, ms, rfl, h1, h2, hm, fun e => by simp at e, fun b' e i m him => ?_⟩
    simp only [Option.some.injEq] at e
    subst e
    exact hms i m him
end
set_option maxRecDepth 100000 in
theorem okIntR {W : World} {base f : Nat} {v : Value} {h : H} (hv : Value.okWide Try.prog W .any base 3 v) (hi : In Try.prog h f 3 v.cells.toList) : ∃ n, v = .int .i64 n ∧ -9223372036854775808 ≤ n ∧ n ≤ 9223372036854775807 := by
  obtain ⟨n, rfl⟩ := okWide_int Try.underlying3 hv
  obtain ⟨m, e, hw⟩ := In_int Try.underlying3 hi
  have : n = m := by simpa [Value.cells] using e
  subst this
  refine ⟨n, rfl, ?_⟩
  simp [Lit.wf, IntKind.min, IntKind.max, IntKind.signed, IntKind.bits] at hw
  omega
end Go.Proofs.Ytkfokpkpobjoeaa
