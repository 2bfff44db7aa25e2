/-
  No cell of these rows narrows 'for every input' (looked for: loops, veiled, ifaces, maps, wideKeys, modest, calm, conditions, laid).
  DERIVED. THE GIVEN ROWS OF THIS SEAT. 3 by the template 'for every input the law returns true; each argument reads behind the call as it read before'; 0 by the template 'total and deterministic' (their statements: YtgkebmhkmedadaaTotals.lean).
  GIVEN WITH THE SEED: the statements are not yours to turn. If you find one false, say at which input.
  Laid BY PROGRAM, IN A SANDBOX (cutbox-rows.mjs): the forced cells as the released guide's own fill.sh prints them over the translation 23973019e10e0f2f… (all of the seat's roots in one cut). By AI agents, Wed Nov 11 2026. No macro, syntax, notation, axiom, sorry.
-/
import Derived.Test.YtgkebmhkmedadaaChecked
import GoSem.Claim
import GoSem.ClaimJoined
import GoSem.ClaimMapViews
import Derived.JoinedTies
import Derived.KernelRfl
namespace Go.Proofs.Ytgkebmhkmedadaa
/- THE CELL 'sum', in the pinned program and in every row, IS THE sha256 OF THE DUMP (.gsa) THAT YtgkebmhkmedadaaProg.lean LOADS. Nothing in Lean hashes anything: it is a label: what it is worth is what the hold of that sum in a sandbox is worth. -/
noncomputable def Try.pinned : Pinned := { name := "ytgkebmhkmedadaa", sum := "23973019e10e0f2fd8cfcc7ee1aeb3365016d43eb9ab4f36775755ae2c281d49", checked := Try.checked }
namespace Rows
def none {H : Type} : Left H := { results := [], args := [] }

/-- 'cofferdamlaw11.AnchorPlays': WHATEVER THE INPUT: true; the input reads as it did. -/
def anchorPlaysSpec : ChangeSpec := { name := "anchorPlays", fn := fun _ => fun
  | [d] => { results := [.lit (.bool true)], args := [d] }
  | _ => none }
def anchorPlaysRow : OpenClaim := { program := "ytgkebmhkmedadaa", sum := "23973019e10e0f2fd8cfcc7ee1aeb3365016d43eb9ab4f36775755ae2c281d49", func := "cofferdam/cofferdamlaw11.AnchorPlays", spec := "anchorPlays", apart := false }
def AnchorPlaysSaid : Prop := anchorPlaysRow.holds Try.pinned (OpenSpec.ofChange anchorPlaysSpec)

/-- ITS FALSE NEIGHBOUR: 'it returns false'. Refute it at one input. -/
def anchorPlaysWrong : ChangeSpec := { name := "anchorPlays", fn := fun _ => fun
  | [d] => { results := [.lit (.bool false)], args := [d] }
  | _ => none }
def AnchorPlaysWrongFalsely : Prop := anchorPlaysRow.holds Try.pinned (OpenSpec.ofChange anchorPlaysWrong)

/-- 'cofferdamlaw11.AnchorRises': WHATEVER THE INPUT: true; the input reads as it did. -/
def anchorRisesSpec : ChangeSpec := { name := "anchorRises", fn := fun _ => fun
  | [d] => { results := [.lit (.bool true)], args := [d] }
  | _ => none }
def anchorRisesRow : OpenClaim := { program := "ytgkebmhkmedadaa", sum := "23973019e10e0f2fd8cfcc7ee1aeb3365016d43eb9ab4f36775755ae2c281d49", func := "cofferdam/cofferdamlaw11.AnchorRises", spec := "anchorRises", apart := false }
def AnchorRisesSaid : Prop := anchorRisesRow.holds Try.pinned (OpenSpec.ofChange anchorRisesSpec)

/-- ITS FALSE NEIGHBOUR: 'it returns false'. Refute it at one input. -/
def anchorRisesWrong : ChangeSpec := { name := "anchorRises", fn := fun _ => fun
  | [d] => { results := [.lit (.bool false)], args := [d] }
  | _ => none }
def AnchorRisesWrongFalsely : Prop := anchorRisesRow.holds Try.pinned (OpenSpec.ofChange anchorRisesWrong)

/-- 'cofferdamlaw11.AnchorLast': WHATEVER THE INPUT: true; the input reads as it did. -/
def anchorLastSpec : ChangeSpec := { name := "anchorLast", fn := fun _ => fun
  | [d1, d2] => { results := [.lit (.bool true)], args := [d1, d2] }
  | _ => none }
def anchorLastRow : OpenClaim := { program := "ytgkebmhkmedadaa", sum := "23973019e10e0f2fd8cfcc7ee1aeb3365016d43eb9ab4f36775755ae2c281d49", func := "cofferdam/cofferdamlaw11.AnchorLast", spec := "anchorLast", apart := false }
def AnchorLastSaid : Prop := anchorLastRow.holds Try.pinned (OpenSpec.ofChange anchorLastSpec)

/-- ITS FALSE NEIGHBOUR: 'it returns false'. Refute it at one input. -/
def anchorLastWrong : ChangeSpec := { name := "anchorLast", fn := fun _ => fun
  | [d1, d2] => { results := [.lit (.bool false)], args := [d1, d2] }
  | _ => none }
def AnchorLastWrongFalsely : Prop := anchorLastRow.holds Try.pinned (OpenSpec.ofChange anchorLastWrong)

/- THE SECOND FORM. 'bulk': how many values and letters a reading holds, each counted each time it is reached (what is shared counts as often as it is met; a slice's spare places count too). A statement '..UptoSaid' is the law's where the arguments, and the package variables that the reading takes, are together of bulk at most 1048576: NARROWER than '..Said'. Prove '..Said' where nothing that the law and all that it calls make is longer than what came in: it says more and counts as full. Else prove '..UptoSaid'. A law counts once. -/
mutual
def uptoBulk {H : Type} : DataW H → Nat
  | .lit (.string bytes) => bytes.length + 1
  | .lit _ => 1
  | .nil => 1
  | .ptr d => uptoBulk d + 1
  | .slice elems spare => uptoBulkAll elems + uptoBulkAll spare + 1
  | .agg parts => uptoBulkAll parts + 1
  | .iface _ d => uptoBulk d + 1
  | .map entries => uptoBulkEntries entries + 1
  | .held _ => 1
def uptoBulkAll {H : Type} : List (DataW H) → Nat
  | [] => 0
  | d :: r => uptoBulk d + uptoBulkAll r
def uptoBulkEntries {H : Type} : List (Lit × DataW H) → Nat
  | [] => 0
  | x :: r => uptoBulkEntry x + uptoBulkEntries r
def uptoBulkEntry {H : Type} : Lit × DataW H → Nat
  | (.string bytes, d) => bytes.length + uptoBulk d + 1
  | (_, d) => uptoBulk d + 1
 end
def uptoSmall : (H : Type) → List (DataW H) → Bool := fun _ ds => decide (uptoBulkAll ds ≤ 1048576)
def OpenSpec.upto (s : _root_.Go.ChangeSpec) : _root_.Go.OpenSpec := { _root_.Go.OpenSpec.ofChange s with cond := some uptoSmall }

/-- 'cofferdamlaw11.AnchorPlays', WHERE WHAT IT READS IS OF BULK AT MOST 1048576: true; the input reads as it did. -/
def anchorPlaysUptoRow : OpenClaim := { program := "ytgkebmhkmedadaa", sum := "23973019e10e0f2fd8cfcc7ee1aeb3365016d43eb9ab4f36775755ae2c281d49", func := "cofferdam/cofferdamlaw11.AnchorPlays", spec := "anchorPlays", apart := false, narrowed := true }
def AnchorPlaysUptoSaid : Prop := anchorPlaysUptoRow.holds Try.pinned (OpenSpec.upto anchorPlaysSpec)

/-- 'cofferdamlaw11.AnchorRises', WHERE WHAT IT READS IS OF BULK AT MOST 1048576: true; the input reads as it did. -/
def anchorRisesUptoRow : OpenClaim := { program := "ytgkebmhkmedadaa", sum := "23973019e10e0f2fd8cfcc7ee1aeb3365016d43eb9ab4f36775755ae2c281d49", func := "cofferdam/cofferdamlaw11.AnchorRises", spec := "anchorRises", apart := false, narrowed := true }
def AnchorRisesUptoSaid : Prop := anchorRisesUptoRow.holds Try.pinned (OpenSpec.upto anchorRisesSpec)

/-- 'cofferdamlaw11.AnchorLast', WHERE WHAT IT READS IS OF BULK AT MOST 1048576: true; the input reads as it did. -/
def anchorLastUptoRow : OpenClaim := { program := "ytgkebmhkmedadaa", sum := "23973019e10e0f2fd8cfcc7ee1aeb3365016d43eb9ab4f36775755ae2c281d49", func := "cofferdam/cofferdamlaw11.AnchorLast", spec := "anchorLast", apart := false, narrowed := true }
def AnchorLastUptoSaid : Prop := anchorLastUptoRow.holds Try.pinned (OpenSpec.upto anchorLastSpec)

end Rows
end Go.Proofs.Ytgkebmhkmedadaa
