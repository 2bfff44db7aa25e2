/- The layout's rows, 1: what the row's list gives, and what a layout reads as. -/
import Derived.Test.YtgkebmhkmedadaaDoorShL4
import Derived.Test.YtgkebmhkmedadaaDoorCards
import Derived.Test.YtgkebmhkmedadaaDoorTie
import Derived.OpenShut
import Derived.Deep.DeepHandedRow
import Derived.Lib.LaidTab
namespace Go.Proofs.YtgkebmhkmedadaaDoor
open Go.Sh Go.RowKit Go.ChangeShapes Go.WideShapes Go.ChangeAt
set_option linter.unusedSimpArgs false
set_option linter.unusedVariables false

theorem Tryd.own : ownKnob Tryd.prog.godebug = none := by kernel_rfl
theorem Tryd.laidOut : laidOutB Tryd.prog = true := by kernel_rfl
theorem gTab : Tryd.prog.globalNamed "cofferdam/layout.sizes" = some 0 := by kernel_rfl
theorem laid_sizes {W : World} (h : laidMetH Tryd.prog [("cofferdam/layout.sizes", Rows.laid_cofferdam_layout_sizes)] W) : Sizes (hp W) := by
  have ht : Lib.TabIs Tryd.prog W "cofferdam/layout.sizes" .i64 [2, 4, 8, 16] := Lib.tabIs_of_head (rest := []) gTab (by kernel_rfl) Tryd.underlying62 Tryd.underlying3 (by kernel_rfl) (by kernel_rfl) h
  exact ⟨ht.cell gTab 0 (by decide), ht.cell gTab 1 (by decide), ht.cell gTab 2 (by decide), ht.cell gTab 3 (by decide)⟩
/-- What is given as a layout: three numbers and a truth. -/
theorem raw_of {h : H} {f : Nat} {cs : List Value} (hi : In Tryd.prog h f 23 cs) : ∃ a b c g, cs = [.int .i64 a, .int .i64 b, .int .i64 c, .bool g] := by
  obtain ⟨f', hl, hi⟩ := In_struct Tryd.underlying23 hi
  rw [show Tryd.prog.cellsOf 23 = 4 by decide +kernel] at hl
  simp only [List.mem_cons, List.not_mem_nil, or_false, forall_eq_or_imp, forall_eq] at hi
  obtain ⟨h0, h1, h2, h3⟩ := hi
  obtain ⟨a, ea, _⟩ := In_int Tryd.underlying3 h0
  obtain ⟨b, eb, _⟩ := In_int Tryd.underlying3 h1
  obtain ⟨c, ec, _⟩ := In_int Tryd.underlying3 h2
  obtain ⟨g, eg⟩ := In_bool Tryd.underlying4 h3
  rw [show Tryd.prog.cellsOf 3 = 1 by decide +kernel] at ea eb ec
  rw [show Tryd.prog.cellsOf 4 = 1 by decide +kernel] at eg
  refine ⟨a, b, c, g, ?_⟩
  have e : cs = (cs.drop 0).take 1 ++ ((cs.drop 1).take 1 ++ ((cs.drop 2).take 1 ++ ((cs.drop 3).take 1 ++ cs.drop 4))) := by
    rw [← drop_take cs 3 1 4 rfl, ← drop_take cs 2 1 3 rfl, ← drop_take cs 1 1 2 rfl, ← drop_take cs 0 1 1 rfl, List.drop_zero]
  rw [e, ea, eb, ec, eg, List.drop_eq_nil_of_le (by omega)]
  rfl
theorem raw_arg {W : World} {base : Nat} {H' : Type} {enc : TypeId × Value → H'} {v : Value} {d : DataW H'} {ps : List MemPlace} (hv : Value.okWide Tryd.prog W .any base 23 v) (h : DataW.Trod enc Tryd.prog W 0 (fun _ => true) true 23 v d ps) :
    ∃ a b c g, v = .agg #[.int .i64 a, .int .i64 b, .int .i64 c, .bool g] := by
  obtain ⟨cs, rfl⟩ := okWide_agg (by rw [Tryd.underlying23]; rfl) hv
  obtain ⟨fuel, h⟩ := h
  obtain ⟨a, b, c, g, e⟩ := raw_of (In_of_trod h)
  refine ⟨a, b, c, g, ?_⟩
  have : cs = #[.int .i64 a, .int .i64 b, .int .i64 c, .bool g] := by rw [← Array.toList_inj]; exact e
  rw [this]
/-- The start that fits: the settled world, the table laid. -/
noncomputable def laidWorld (os : Os) : World :=
  { World.holding Tryd.prog os ⟨#[], #[], []⟩ with heap := (World.holding Tryd.prog os ⟨#[], #[], []⟩).heap.modify 0 fun
      | .cells _ t frozen => .cells #[.int .i64 2, .int .i64 4, .int .i64 8, .int .i64 16] t frozen
      | o => o }
/-- A value of a number's type. -/
theorem okWide_int_is {W : World} {base : Nat} {v : Value} (hv : Value.okWide Tryd.prog W .any base 3 v) : ∃ n, v = .int .i64 n := by
  obtain ⟨n, rfl, _⟩ := okWide_int Tryd.underlying3 hv
  exact ⟨n, rfl⟩
end Go.Proofs.YtgkebmhkmedadaaDoor
