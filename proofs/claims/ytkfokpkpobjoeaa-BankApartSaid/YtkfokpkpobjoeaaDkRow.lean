/- What the disk's statements are given. -/
import Derived.Test.YtkfokpkpobjoeaaDkB
import Derived.Test.YtkfokpkpobjoeaaRows
import Derived.OpenShut
namespace Go.Proofs.Ytkfokpkpobjoeaa
open Go.Sh Go.RowKit Go.ChangeShapes Go.WideShapes Go.ChangeAt
set_option linter.unusedSimpArgs false
set_option linter.unusedVariables false

theorem own : ownKnob Try.prog.godebug = none := by kernel_rfl
theorem laidOut : laidOutB Try.prog = true := by kernel_rfl
theorem list_of {α : Type} {l : Nat} {R : Nat → α → Prop} (h : ∀ i, i < l → ∃ x, R i x) : ∃ xs : List α, xs.length = l ∧ ∀ i x, xs[i]? = some x → R i x := by
  induction l with
  | zero => exact ⟨[], rfl, fun i x hx => by simp at hx⟩
  | succ l ih =>
    obtain ⟨xs, hl, hr⟩ := ih fun i hi => h i (by omega)
    obtain ⟨y, hy⟩ := h l (by omega)
    refine ⟨xs ++ [y], by simp [hl], fun i x hx => ?_⟩
    by_cases hi : i < xs.length
    · rw [List.getElem?_append_left hi] at hx
      exact hr i x hx
    · rw [List.getElem?_append_right (by omega)] at hx
      have : i - xs.length = 0 := by
        have := (List.getElem?_eq_some_iff.1 hx).1
        simp at this; omega
      rw [this] at hx
      simp only [List.getElem?_cons_zero, Option.some.injEq] at hx
      subst hx
      rw [show i = l by omega]; exact hy
section
variable {h : H} {f : Nat} {cs : List Value}
theorem bools_of (hi : In Try.prog h f 24 cs) : ∃ a l c, ∃ bs : List Bool, cs = [Value.slice a l c] ∧ l ≤ c ∧ c ≤ maxLen ∧ bs.length = l ∧ (a = none → l = 0) ∧ ∀ b, a = some b → Sh.rowAt h b (bs.map Value.bool) := by
  obtain ⟨f', a, l, c, rfl, h1, h2, h3, h4⟩ := In_slice Try.underlying24 hi
  cases a with
  | none => exact ⟨none, l, c, [], rfl, h1, h2, by simp [(h3 rfl).1], fun _ => (h3 rfl).1, fun b hb => by simp at hb⟩
  | some b =>
    have : ∀ i, i < l → ∃ x : Bool, h.cell (b.add i) = some (.bool x) := fun i hil => by
      obtain ⟨r, hr1, hr, hin⟩ := h4 b rfl i hil
      obtain ⟨x, rfl⟩ := In_bool Try.underlying4 hin
      have := hr 0 (by simp)
      rw [show Try.prog.cellsOf 4 = 1 by decide +kernel, Nat.mul_one, Addr.add_zero'] at this
      exact ⟨x, this⟩
    obtain ⟨bs, hb, hbs⟩ := list_of this
    refine ⟨some b, l, c, bs, rfl, h1, h2, hb, fun e => by simp at e, fun b' e i hi => ?_⟩
    simp only [Option.some.injEq] at e
    subst e
    simp only [List.length_map] at hi
    rw [hbs i _ (List.getElem?_eq_getElem hi)]
    simp [hi]
theorem texts_of (hi : In Try.prog h f 22 cs) : ∃ a l c, ∃ xs : List ByteArray, cs = [Value.slice a l c] ∧ l ≤ c ∧ c ≤ maxLen ∧ Texts h a l xs := by
  obtain ⟨f', a, l, c, rfl, h1, h2, h3, h4⟩ := In_slice Try.underlying22 hi
  cases a with
  | none => exact ⟨none, l, c, [], rfl, h1, h2, by simp [(h3 rfl).1], fun _ => (h3 rfl).1, fun b hb => by simp at hb, by simp⟩
  | some b =>
    have : ∀ i, i < l → ∃ x : ByteArray, h.cell (b.add i) = some (.string x) ∧ x.size ≤ maxLen := fun i hil => by
      obtain ⟨r, hr1, hr, hin⟩ := h4 b rfl i hil
      obtain ⟨x, rfl, hx⟩ := In_str Try.underlying9 hin
      have := hr 0 (by simp)
      rw [show Try.prog.cellsOf 9 = 1 by decide +kernel, Nat.mul_one, Addr.add_zero'] at this
      exact ⟨x, this, hx⟩
    obtain ⟨bs, hb, hbs⟩ := list_of this
    refine ⟨some b, l, c, bs, rfl, h1, h2, hb, fun e => by simp at e, fun b' e i hi => ?_, fun s hs => ?_⟩
    · simp only [Option.some.injEq] at e
      subst e
      simp only [List.length_map] at hi
      rw [(hbs i _ (List.getElem?_eq_getElem hi)).1]
      simp [hi]
    · obtain ⟨i, hi, rfl⟩ := List.getElem_of_mem hs
      exact (hbs i _ (List.getElem?_eq_getElem hi)).2
theorem actm_of (hi : In Try.prog h f 34 cs) : ∃ m : ActM, cs = m.cells ∧ ActAt h m := by
  obtain ⟨f', hl, hi⟩ := In_struct Try.underlying34 hi
  rw [show Try.prog.cellsOf 34 = 6 by decide +kernel] at hl
  simp only [List.mem_cons, List.not_mem_nil, or_false, forall_eq_or_imp, forall_eq] at hi
  obtain ⟨h0, h1, h2, h3, h4, h5⟩ := hi
  obtain ⟨n0, e0, _⟩ := In_int Try.underlying3 h0
  obtain ⟨n1, e1, _⟩ := In_int Try.underlying3 h1
  obtain ⟨s2, e2, hs⟩ := In_str Try.underlying9 h2
  obtain ⟨n3, e3, _⟩ := In_int Try.underlying3 h3
  obtain ⟨a, l, c, bs, e4, hlc, _, hbl, hn, hr⟩ := bools_of h4
  obtain ⟨b5, e5⟩ := In_bool Try.underlying4 h5
  rw [show Try.prog.cellsOf 3 = 1 by decide +kernel] at e0 e1 e3
  rw [show Try.prog.cellsOf 9 = 1 by decide +kernel] at e2
  rw [show Try.prog.cellsOf 24 = 1 by decide +kernel] at e4
  rw [show Try.prog.cellsOf 4 = 1 by decide +kernel] at e5
  refine ⟨⟨n0, n1, s2, n3, a, l, c, b5, bs⟩, ?_, hbl, hlc, hn, hr, hs⟩
  have e : cs = (cs.drop 0).take 1 ++ ((cs.drop 1).take 1 ++ ((cs.drop 2).take 1 ++ ((cs.drop 3).take 1 ++ ((cs.drop 4).take 1 ++ ((cs.drop 5).take 1 ++ cs.drop 6))))) := by
    rw [← drop_take cs 5 1 6 rfl, ← drop_take cs 4 1 5 rfl, ← drop_take cs 3 1 4 rfl, ← drop_take cs 2 1 3 rfl, ← drop_take cs 1 1 2 rfl, ← drop_take cs 0 1 1 rfl, List.drop_zero]
  rw [e, e0, e1, e2, e3, e4, e5, List.drop_eq_nil_of_le (by omega)]
  rfl
theorem acts_of (hi : In Try.prog h f 23 cs) : ∃ a l c, ∃ ms : List ActM, cs = [Value.slice a l c] ∧ l ≤ c ∧ c ≤ maxLen ∧ Acts h a l ms := by
  obtain ⟨f', a, l, c, rfl, h1, h2, h3, h4⟩ := In_slice Try.underlying23 hi
  cases a with
  | none => exact ⟨none, l, c, [], rfl, h1, h2, by simp [(h3 rfl).1], fun _ => (h3 rfl).1, fun b hb => by simp at hb⟩
  | some b =>
    have : ∀ i, i < l → ∃ m : ActM, Sh.rowAt h (b.add (i * 6)) m.cells ∧ ActAt h m := fun i hil => by
      obtain ⟨r, hr1, hr, hin⟩ := h4 b rfl i hil
      obtain ⟨m, rfl, hm⟩ := actm_of hin
      rw [show Try.prog.cellsOf 34 = 6 by decide +kernel] at hr
      exact ⟨m, hr, hm⟩
    obtain ⟨ms, hm, hms⟩ := list_of this
    refine ⟨some b, l, c, ms, rfl, h1, h2, hm, fun e => by simp at e, fun b' e i m him => ?_⟩
    simp only [Option.some.injEq] at e
    subst e
    exact hms i m him
set_option maxRecDepth 100000 in
theorem okInt {W : World} {base : Nat} {v : Value} (hv : Value.okWide Try.prog W .any base 3 v) : ∃ n, v = .int .i64 n := by
  obtain ⟨n, rfl, _⟩ := okWide_int Try.underlying3 hv
  exact ⟨n, rfl⟩
end
end Go.Proofs.Ytkfokpkpobjoeaa
