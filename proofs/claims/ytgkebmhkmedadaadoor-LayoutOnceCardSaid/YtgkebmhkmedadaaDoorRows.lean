/-
  NARROWER THAN 'FOR EVERY INPUT', by the rows' own cells (each row's printed sentence says how): LayoutGood: laid · LayoutFinds: laid · LayoutOnce: laid · LayoutSeats: laid · LayoutRounds: laid · LayoutSteps: laid · LayoutGrows: laid.
  DERIVED. THE GIVEN ROWS OF THIS SEAT. 7 by the template 'for every input the law returns true; each argument reads behind the call as it read before'; 0 by the template 'total and deterministic' (their statements: YtgkebmhkmedadaaDoorTotals.lean).
  GIVEN WITH THE SEED: the statements are not yours to turn. If you find one false, say at which input.
  Laid BY PROGRAM, IN A SANDBOX (cutbox-rows.mjs): the forced cells as the released guide's own fill.sh prints them over the translation 59a9ff3c90acd06f… (all of the seat's roots in one cut). By AI agents, Wed Nov 11 2026. No macro, syntax, notation, axiom, sorry.
-/
import Derived.Test.YtgkebmhkmedadaaDoorChecked
import GoSem.Claim
import GoSem.ClaimJoined
import GoSem.ClaimMapViews
import Derived.JoinedTies
import Derived.KernelRfl
namespace Go.Proofs.YtgkebmhkmedadaaDoor
/- THE CELL 'sum', in the pinned program and in every row, IS THE sha256 OF THE DUMP (.gsa) THAT YtgkebmhkmedadaaDoorProg.lean LOADS. Nothing in Lean hashes anything: it is a label: what it is worth is what the hold of that sum in a sandbox is worth. -/
noncomputable def Tryd.pinned : Pinned := { name := "ytgkebmhkmedadaadoor", sum := "59a9ff3c90acd06fba06df2019bab2536a5f2d34b6c652d8e0d9907413c17216", checked := Tryd.checked }
namespace Rows
def none {H : Type} : Left H := { results := [], args := [] }

/- WHAT THE LISTED PACKAGE-LEVEL VARIABLES READ AS WHEN THE CALL BEGINS. Each datum BY PROGRAM (the guide's laid-datum.mjs) off the statement by which the dump's own 'gosem.cut.vars' lays the variable. In a bare row this is a premise. The card (YtgkebmhkmedadaaDoorCards.lean) ties it to the program's text. -/
def laid_cofferdam_layout_sizes {H : Type} : DataW H := .agg [.lit (.int .i64 2), .lit (.int .i64 4), .lit (.int .i64 8), .lit (.int .i64 16)]

/-- 'cofferdamlaw18.LayoutGood': WHATEVER THE INPUT: true; the input reads as it did. -/
def layoutGoodSpec : ChangeSpec := { name := "layoutGood", fn := fun _ => fun
  | [d1, d2] => { results := [.lit (.bool true)], args := [d1, d2] }
  | _ => none }
def layoutGoodRow : OpenClaim := { program := "ytgkebmhkmedadaadoor", sum := "59a9ff3c90acd06fba06df2019bab2536a5f2d34b6c652d8e0d9907413c17216", func := "cofferdam/cofferdamlaw18.LayoutGood", spec := "layoutGood", named := ["cofferdam/layout.sizes"], plainKeys := false, apart := false, laid := [("cofferdam/layout.sizes", laid_cofferdam_layout_sizes)] }
def LayoutGoodSaid : Prop := layoutGoodRow.holds Tryd.pinned (OpenSpec.ofChange layoutGoodSpec)

/-- ITS FALSE NEIGHBOUR: 'it returns false'. Refute it at one input. -/
def layoutGoodWrong : ChangeSpec := { name := "layoutGood", fn := fun _ => fun
  | [d1, d2] => { results := [.lit (.bool false)], args := [d1, d2] }
  | _ => none }
def LayoutGoodWrongFalsely : Prop := layoutGoodRow.holds Tryd.pinned (OpenSpec.ofChange layoutGoodWrong)

/-- 'cofferdamlaw18.LayoutFinds': WHATEVER THE INPUT: true; the input reads as it did. -/
def layoutFindsSpec : ChangeSpec := { name := "layoutFinds", fn := fun _ => fun
  | [d1, d2] => { results := [.lit (.bool true)], args := [d1, d2] }
  | _ => none }
def layoutFindsRow : OpenClaim := { program := "ytgkebmhkmedadaadoor", sum := "59a9ff3c90acd06fba06df2019bab2536a5f2d34b6c652d8e0d9907413c17216", func := "cofferdam/cofferdamlaw18.LayoutFinds", spec := "layoutFinds", named := ["cofferdam/layout.sizes"], plainKeys := false, apart := false, laid := [("cofferdam/layout.sizes", laid_cofferdam_layout_sizes)] }
def LayoutFindsSaid : Prop := layoutFindsRow.holds Tryd.pinned (OpenSpec.ofChange layoutFindsSpec)

/-- ITS FALSE NEIGHBOUR: 'it returns false'. Refute it at one input. -/
def layoutFindsWrong : ChangeSpec := { name := "layoutFinds", fn := fun _ => fun
  | [d1, d2] => { results := [.lit (.bool false)], args := [d1, d2] }
  | _ => none }
def LayoutFindsWrongFalsely : Prop := layoutFindsRow.holds Tryd.pinned (OpenSpec.ofChange layoutFindsWrong)

/-- 'cofferdamlaw18.LayoutOnce': WHATEVER THE INPUT: true; the input reads as it did. -/
def layoutOnceSpec : ChangeSpec := { name := "layoutOnce", fn := fun _ => fun
  | [d] => { results := [.lit (.bool true)], args := [d] }
  | _ => none }
def layoutOnceRow : OpenClaim := { program := "ytgkebmhkmedadaadoor", sum := "59a9ff3c90acd06fba06df2019bab2536a5f2d34b6c652d8e0d9907413c17216", func := "cofferdam/cofferdamlaw18.LayoutOnce", spec := "layoutOnce", named := ["cofferdam/layout.sizes"], plainKeys := false, apart := false, laid := [("cofferdam/layout.sizes", laid_cofferdam_layout_sizes)] }
def LayoutOnceSaid : Prop := layoutOnceRow.holds Tryd.pinned (OpenSpec.ofChange layoutOnceSpec)

/-- ITS FALSE NEIGHBOUR: 'it returns false'. Refute it at one input. -/
def layoutOnceWrong : ChangeSpec := { name := "layoutOnce", fn := fun _ => fun
  | [d] => { results := [.lit (.bool false)], args := [d] }
  | _ => none }
def LayoutOnceWrongFalsely : Prop := layoutOnceRow.holds Tryd.pinned (OpenSpec.ofChange layoutOnceWrong)

/-- 'cofferdamlaw18.LayoutSeats': WHATEVER THE INPUT: true; the input reads as it did. -/
def layoutSeatsSpec : ChangeSpec := { name := "layoutSeats", fn := fun _ => fun
  | [d1, d2, d3] => { results := [.lit (.bool true)], args := [d1, d2, d3] }
  | _ => none }
def layoutSeatsRow : OpenClaim := { program := "ytgkebmhkmedadaadoor", sum := "59a9ff3c90acd06fba06df2019bab2536a5f2d34b6c652d8e0d9907413c17216", func := "cofferdam/cofferdamlaw18.LayoutSeats", spec := "layoutSeats", named := ["cofferdam/layout.sizes"], plainKeys := false, apart := false, laid := [("cofferdam/layout.sizes", laid_cofferdam_layout_sizes)] }
def LayoutSeatsSaid : Prop := layoutSeatsRow.holds Tryd.pinned (OpenSpec.ofChange layoutSeatsSpec)

/-- ITS FALSE NEIGHBOUR: 'it returns false'. Refute it at one input. -/
def layoutSeatsWrong : ChangeSpec := { name := "layoutSeats", fn := fun _ => fun
  | [d1, d2, d3] => { results := [.lit (.bool false)], args := [d1, d2, d3] }
  | _ => none }
def LayoutSeatsWrongFalsely : Prop := layoutSeatsRow.holds Tryd.pinned (OpenSpec.ofChange layoutSeatsWrong)

/-- 'cofferdamlaw18.LayoutRounds': WHATEVER THE INPUT: true; the input reads as it did. -/
def layoutRoundsSpec : ChangeSpec := { name := "layoutRounds", fn := fun _ => fun
  | [d] => { results := [.lit (.bool true)], args := [d] }
  | _ => none }
def layoutRoundsRow : OpenClaim := { program := "ytgkebmhkmedadaadoor", sum := "59a9ff3c90acd06fba06df2019bab2536a5f2d34b6c652d8e0d9907413c17216", func := "cofferdam/cofferdamlaw18.LayoutRounds", spec := "layoutRounds", named := ["cofferdam/layout.sizes"], plainKeys := false, apart := false, laid := [("cofferdam/layout.sizes", laid_cofferdam_layout_sizes)] }
def LayoutRoundsSaid : Prop := layoutRoundsRow.holds Tryd.pinned (OpenSpec.ofChange layoutRoundsSpec)

/-- ITS FALSE NEIGHBOUR: 'it returns false'. Refute it at one input. -/
def layoutRoundsWrong : ChangeSpec := { name := "layoutRounds", fn := fun _ => fun
  | [d] => { results := [.lit (.bool false)], args := [d] }
  | _ => none }
def LayoutRoundsWrongFalsely : Prop := layoutRoundsRow.holds Tryd.pinned (OpenSpec.ofChange layoutRoundsWrong)

/-- 'cofferdamlaw18.LayoutSteps': WHATEVER THE INPUT: true; the input reads as it did. -/
def layoutStepsSpec : ChangeSpec := { name := "layoutSteps", fn := fun _ => fun
  | [d] => { results := [.lit (.bool true)], args := [d] }
  | _ => none }
def layoutStepsRow : OpenClaim := { program := "ytgkebmhkmedadaadoor", sum := "59a9ff3c90acd06fba06df2019bab2536a5f2d34b6c652d8e0d9907413c17216", func := "cofferdam/cofferdamlaw18.LayoutSteps", spec := "layoutSteps", named := ["cofferdam/layout.sizes"], plainKeys := false, apart := false, laid := [("cofferdam/layout.sizes", laid_cofferdam_layout_sizes)] }
def LayoutStepsSaid : Prop := layoutStepsRow.holds Tryd.pinned (OpenSpec.ofChange layoutStepsSpec)

/-- ITS FALSE NEIGHBOUR: 'it returns false'. Refute it at one input. -/
def layoutStepsWrong : ChangeSpec := { name := "layoutSteps", fn := fun _ => fun
  | [d] => { results := [.lit (.bool false)], args := [d] }
  | _ => none }
def LayoutStepsWrongFalsely : Prop := layoutStepsRow.holds Tryd.pinned (OpenSpec.ofChange layoutStepsWrong)

/-- 'cofferdamlaw18.LayoutGrows': WHATEVER THE INPUT: true; the input reads as it did. -/
def layoutGrowsSpec : ChangeSpec := { name := "layoutGrows", fn := fun _ => fun
  | [d] => { results := [.lit (.bool true)], args := [d] }
  | _ => none }
def layoutGrowsRow : OpenClaim := { program := "ytgkebmhkmedadaadoor", sum := "59a9ff3c90acd06fba06df2019bab2536a5f2d34b6c652d8e0d9907413c17216", func := "cofferdam/cofferdamlaw18.LayoutGrows", spec := "layoutGrows", named := ["cofferdam/layout.sizes"], plainKeys := false, apart := false, laid := [("cofferdam/layout.sizes", laid_cofferdam_layout_sizes)] }
def LayoutGrowsSaid : Prop := layoutGrowsRow.holds Tryd.pinned (OpenSpec.ofChange layoutGrowsSpec)

/-- ITS FALSE NEIGHBOUR: 'it returns false'. Refute it at one input. -/
def layoutGrowsWrong : ChangeSpec := { name := "layoutGrows", fn := fun _ => fun
  | [d] => { results := [.lit (.bool false)], args := [d] }
  | _ => none }
def LayoutGrowsWrongFalsely : Prop := layoutGrowsRow.holds Tryd.pinned (OpenSpec.ofChange layoutGrowsWrong)

/- THE SECOND FORM. 'bulk': how many values and letters a reading holds, each counted each time it is reached (what is shared counts as often as it is met; a slice's spare places count too). A statement '..UptoSaid' is the law's where the arguments, and the package variables that the reading takes, are together of bulk at most 1048576: NARROWER than '..Said'. Prove '..Said' where nothing that the law and all that it calls make is longer than what came in: it says more and counts as full. Else prove '..UptoSaid'. A law counts once. -/
mutual
def uptoBulk {H : Type} : DataW H → Nat
  | .lit (.string bytes) => bytes.length + 1
  | .lit _ => 1
  | .nil => 1
  | .ptr d => uptoBulk d + 1
  | .slice elems spare => uptoBulkAll elems + uptoBulkAll spare + 1
  | .agg parts => uptoBulkAll parts + 1
  | .iface _ d => uptoBulk d + 1
  | .map entries => uptoBulkEntries entries + 1
  | .held _ => 1
def uptoBulkAll {H : Type} : List (DataW H) → Nat
  | [] => 0
  | d :: r => uptoBulk d + uptoBulkAll r
def uptoBulkEntries {H : Type} : List (Lit × DataW H) → Nat
  | [] => 0
  | x :: r => uptoBulkEntry x + uptoBulkEntries r
def uptoBulkEntry {H : Type} : Lit × DataW H → Nat
  | (.string bytes, d) => bytes.length + uptoBulk d + 1
  | (_, d) => uptoBulk d + 1
 end
def uptoSmall : (H : Type) → List (DataW H) → Bool := fun _ ds => decide (uptoBulkAll ds ≤ 1048576)
def OpenSpec.upto (s : _root_.Go.ChangeSpec) : _root_.Go.OpenSpec := { _root_.Go.OpenSpec.ofChange s with cond := some uptoSmall }

/-- 'cofferdamlaw18.LayoutGood', WHERE WHAT IT READS IS OF BULK AT MOST 1048576: true; the input reads as it did. -/
def layoutGoodUptoRow : OpenClaim := { program := "ytgkebmhkmedadaadoor", sum := "59a9ff3c90acd06fba06df2019bab2536a5f2d34b6c652d8e0d9907413c17216", func := "cofferdam/cofferdamlaw18.LayoutGood", spec := "layoutGood", named := ["cofferdam/layout.sizes"], plainKeys := false, apart := false, laid := [("cofferdam/layout.sizes", laid_cofferdam_layout_sizes)], narrowed := true }
def LayoutGoodUptoSaid : Prop := layoutGoodUptoRow.holds Tryd.pinned (OpenSpec.upto layoutGoodSpec)

/-- 'cofferdamlaw18.LayoutFinds', WHERE WHAT IT READS IS OF BULK AT MOST 1048576: true; the input reads as it did. -/
def layoutFindsUptoRow : OpenClaim := { program := "ytgkebmhkmedadaadoor", sum := "59a9ff3c90acd06fba06df2019bab2536a5f2d34b6c652d8e0d9907413c17216", func := "cofferdam/cofferdamlaw18.LayoutFinds", spec := "layoutFinds", named := ["cofferdam/layout.sizes"], plainKeys := false, apart := false, laid := [("cofferdam/layout.sizes", laid_cofferdam_layout_sizes)], narrowed := true }
def LayoutFindsUptoSaid : Prop := layoutFindsUptoRow.holds Tryd.pinned (OpenSpec.upto layoutFindsSpec)

/-- 'cofferdamlaw18.LayoutOnce', WHERE WHAT IT READS IS OF BULK AT MOST 1048576: true; the input reads as it did. -/
def layoutOnceUptoRow : OpenClaim := { program := "ytgkebmhkmedadaadoor", sum := "59a9ff3c90acd06fba06df2019bab2536a5f2d34b6c652d8e0d9907413c17216", func := "cofferdam/cofferdamlaw18.LayoutOnce", spec := "layoutOnce", named := ["cofferdam/layout.sizes"], plainKeys := false, apart := false, laid := [("cofferdam/layout.sizes", laid_cofferdam_layout_sizes)], narrowed := true }
def LayoutOnceUptoSaid : Prop := layoutOnceUptoRow.holds Tryd.pinned (OpenSpec.upto layoutOnceSpec)

/-- 'cofferdamlaw18.LayoutSeats', WHERE WHAT IT READS IS OF BULK AT MOST 1048576: true; the input reads as it did. -/
def layoutSeatsUptoRow : OpenClaim := { program := "ytgkebmhkmedadaadoor", sum := "59a9ff3c90acd06fba06df2019bab2536a5f2d34b6c652d8e0d9907413c17216", func := "cofferdam/cofferdamlaw18.LayoutSeats", spec := "layoutSeats", named := ["cofferdam/layout.sizes"], plainKeys := false, apart := false, laid := [("cofferdam/layout.sizes", laid_cofferdam_layout_sizes)], narrowed := true }
def LayoutSeatsUptoSaid : Prop := layoutSeatsUptoRow.holds Tryd.pinned (OpenSpec.upto layoutSeatsSpec)

/-- 'cofferdamlaw18.LayoutRounds', WHERE WHAT IT READS IS OF BULK AT MOST 1048576: true; the input reads as it did. -/
def layoutRoundsUptoRow : OpenClaim := { program := "ytgkebmhkmedadaadoor", sum := "59a9ff3c90acd06fba06df2019bab2536a5f2d34b6c652d8e0d9907413c17216", func := "cofferdam/cofferdamlaw18.LayoutRounds", spec := "layoutRounds", named := ["cofferdam/layout.sizes"], plainKeys := false, apart := false, laid := [("cofferdam/layout.sizes", laid_cofferdam_layout_sizes)], narrowed := true }
def LayoutRoundsUptoSaid : Prop := layoutRoundsUptoRow.holds Tryd.pinned (OpenSpec.upto layoutRoundsSpec)

/-- 'cofferdamlaw18.LayoutSteps', WHERE WHAT IT READS IS OF BULK AT MOST 1048576: true; the input reads as it did. -/
def layoutStepsUptoRow : OpenClaim := { program := "ytgkebmhkmedadaadoor", sum := "59a9ff3c90acd06fba06df2019bab2536a5f2d34b6c652d8e0d9907413c17216", func := "cofferdam/cofferdamlaw18.LayoutSteps", spec := "layoutSteps", named := ["cofferdam/layout.sizes"], plainKeys := false, apart := false, laid := [("cofferdam/layout.sizes", laid_cofferdam_layout_sizes)], narrowed := true }
def LayoutStepsUptoSaid : Prop := layoutStepsUptoRow.holds Tryd.pinned (OpenSpec.upto layoutStepsSpec)

/-- 'cofferdamlaw18.LayoutGrows', WHERE WHAT IT READS IS OF BULK AT MOST 1048576: true; the input reads as it did. -/
def layoutGrowsUptoRow : OpenClaim := { program := "ytgkebmhkmedadaadoor", sum := "59a9ff3c90acd06fba06df2019bab2536a5f2d34b6c652d8e0d9907413c17216", func := "cofferdam/cofferdamlaw18.LayoutGrows", spec := "layoutGrows", named := ["cofferdam/layout.sizes"], plainKeys := false, apart := false, laid := [("cofferdam/layout.sizes", laid_cofferdam_layout_sizes)], narrowed := true }
def LayoutGrowsUptoSaid : Prop := layoutGrowsUptoRow.holds Tryd.pinned (OpenSpec.upto layoutGrowsSpec)

end Rows
end Go.Proofs.YtgkebmhkmedadaaDoor
