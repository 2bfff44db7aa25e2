/-
  No cell of these rows narrows 'for every input' (looked for: loops, veiled, ifaces, maps, wideKeys, modest, calm, conditions, laid).
  DERIVED. THE GIVEN ROWS OF THIS SEAT. 10 by the template 'for every input the law returns true; each argument reads behind the call as it read before'; 0 by the template 'total and deterministic' (their statements: YtkfokpkpobjoeaaTotals.lean).
  GIVEN WITH THE SEED: the statements are not yours to turn. If you find one false, say at which input.
  Laid BY PROGRAM, IN A SANDBOX (cutbox-rows.mjs): the forced cells as the released guide's own fill.sh prints them over the translation 0c09f819b28ca6c3… (all of the seat's roots in one cut). By AI agents, Wed Nov 11 2026. No macro, syntax, notation, axiom, sorry.
-/
import Derived.Test.YtkfokpkpobjoeaaChecked
import GoSem.Claim
import GoSem.ClaimJoined
import GoSem.ClaimMapViews
import Derived.JoinedTies
import Derived.KernelRfl
namespace Go.Proofs.Ytkfokpkpobjoeaa
/- THE CELL 'sum', in the pinned program and in every row, IS THE sha256 OF THE DUMP (.gsa) THAT YtkfokpkpobjoeaaProg.lean LOADS. Nothing in Lean hashes anything: it is a label: what it is worth is what the hold of that sum in a sandbox is worth. -/
noncomputable def Try.pinned : Pinned := { name := "ytkfokpkpobjoeaa", sum := "0c09f819b28ca6c3a60c0af63e69f0d53c145c0855faed4224c5456d681683e5", checked := Try.checked }
namespace Rows
def none {H : Type} : Left H := { results := [], args := [] }

/-- 'cofferdamlaw09.DiskLasts': WHATEVER THE INPUT: true; the input reads as it did. -/
def diskLastsSpec : ChangeSpec := { name := "diskLasts", fn := fun _ => fun
  | [d1, d2, d3] => { results := [.lit (.bool true)], args := [d1, d2, d3] }
  | _ => none }
def diskLastsRow : OpenClaim := { program := "ytkfokpkpobjoeaa", sum := "0c09f819b28ca6c3a60c0af63e69f0d53c145c0855faed4224c5456d681683e5", func := "cofferdam/cofferdamlaw09.DiskLasts", spec := "diskLasts", apart := false }
def DiskLastsSaid : Prop := diskLastsRow.holds Try.pinned (OpenSpec.ofChange diskLastsSpec)

/-- ITS FALSE NEIGHBOUR: 'it returns false'. Refute it at one input. -/
def diskLastsWrong : ChangeSpec := { name := "diskLasts", fn := fun _ => fun
  | [d1, d2, d3] => { results := [.lit (.bool false)], args := [d1, d2, d3] }
  | _ => none }
def DiskLastsWrongFalsely : Prop := diskLastsRow.holds Try.pinned (OpenSpec.ofChange diskLastsWrong)

/-- 'cofferdamlaw09.DiskAll': WHATEVER THE INPUT: true; the input reads as it did. -/
def diskAllSpec : ChangeSpec := { name := "diskAll", fn := fun _ => fun
  | [d1, d2] => { results := [.lit (.bool true)], args := [d1, d2] }
  | _ => none }
def diskAllRow : OpenClaim := { program := "ytkfokpkpobjoeaa", sum := "0c09f819b28ca6c3a60c0af63e69f0d53c145c0855faed4224c5456d681683e5", func := "cofferdam/cofferdamlaw09.DiskAll", spec := "diskAll", apart := false }
def DiskAllSaid : Prop := diskAllRow.holds Try.pinned (OpenSpec.ofChange diskAllSpec)

/-- ITS FALSE NEIGHBOUR: 'it returns false'. Refute it at one input. -/
def diskAllWrong : ChangeSpec := { name := "diskAll", fn := fun _ => fun
  | [d1, d2] => { results := [.lit (.bool false)], args := [d1, d2] }
  | _ => none }
def DiskAllWrongFalsely : Prop := diskAllRow.holds Try.pinned (OpenSpec.ofChange diskAllWrong)

/-- 'cofferdamlaw09.DiskPlays': WHATEVER THE INPUT: true; the input reads as it did. -/
def diskPlaysSpec : ChangeSpec := { name := "diskPlays", fn := fun _ => fun
  | [d1, d2] => { results := [.lit (.bool true)], args := [d1, d2] }
  | _ => none }
def diskPlaysRow : OpenClaim := { program := "ytkfokpkpobjoeaa", sum := "0c09f819b28ca6c3a60c0af63e69f0d53c145c0855faed4224c5456d681683e5", func := "cofferdam/cofferdamlaw09.DiskPlays", spec := "diskPlays", unfollowed := true, recurses := true, apart := false }
def DiskPlaysSaid : Prop := diskPlaysRow.holds Try.pinned (OpenSpec.ofChange diskPlaysSpec)

/-- ITS FALSE NEIGHBOUR: 'it returns false'. Refute it at one input. -/
def diskPlaysWrong : ChangeSpec := { name := "diskPlays", fn := fun _ => fun
  | [d1, d2] => { results := [.lit (.bool false)], args := [d1, d2] }
  | _ => none }
def DiskPlaysWrongFalsely : Prop := diskPlaysRow.holds Try.pinned (OpenSpec.ofChange diskPlaysWrong)

/-- 'cofferdamlaw09.DiskRestores': WHATEVER THE INPUT: true; the input reads as it did. -/
def diskRestoresSpec : ChangeSpec := { name := "diskRestores", fn := fun _ => fun
  | [d1, d2] => { results := [.lit (.bool true)], args := [d1, d2] }
  | _ => none }
def diskRestoresRow : OpenClaim := { program := "ytkfokpkpobjoeaa", sum := "0c09f819b28ca6c3a60c0af63e69f0d53c145c0855faed4224c5456d681683e5", func := "cofferdam/cofferdamlaw09.DiskRestores", spec := "diskRestores", unfollowed := true, recurses := true, apart := false }
def DiskRestoresSaid : Prop := diskRestoresRow.holds Try.pinned (OpenSpec.ofChange diskRestoresSpec)

/-- ITS FALSE NEIGHBOUR: 'it returns false'. Refute it at one input. -/
def diskRestoresWrong : ChangeSpec := { name := "diskRestores", fn := fun _ => fun
  | [d1, d2] => { results := [.lit (.bool false)], args := [d1, d2] }
  | _ => none }
def DiskRestoresWrongFalsely : Prop := diskRestoresRow.holds Try.pinned (OpenSpec.ofChange diskRestoresWrong)

/-- 'cofferdamlaw09.DiskDead': WHATEVER THE INPUT: true; the input reads as it did. -/
def diskDeadSpec : ChangeSpec := { name := "diskDead", fn := fun _ => fun
  | [d] => { results := [.lit (.bool true)], args := [d] }
  | _ => none }
def diskDeadRow : OpenClaim := { program := "ytkfokpkpobjoeaa", sum := "0c09f819b28ca6c3a60c0af63e69f0d53c145c0855faed4224c5456d681683e5", func := "cofferdam/cofferdamlaw09.DiskDead", spec := "diskDead", unfollowed := true, recurses := true, apart := false }
def DiskDeadSaid : Prop := diskDeadRow.holds Try.pinned (OpenSpec.ofChange diskDeadSpec)

/-- ITS FALSE NEIGHBOUR: 'it returns false'. Refute it at one input. -/
def diskDeadWrong : ChangeSpec := { name := "diskDead", fn := fun _ => fun
  | [d] => { results := [.lit (.bool false)], args := [d] }
  | _ => none }
def DiskDeadWrongFalsely : Prop := diskDeadRow.holds Try.pinned (OpenSpec.ofChange diskDeadWrong)

/-- 'cofferdamlaw10.BankCut': WHATEVER THE INPUT: true; the input reads as it did. -/
def bankCutSpec : ChangeSpec := { name := "bankCut", fn := fun _ => fun
  | [d1, d2] => { results := [.lit (.bool true)], args := [d1, d2] }
  | _ => none }
def bankCutRow : OpenClaim := { program := "ytkfokpkpobjoeaa", sum := "0c09f819b28ca6c3a60c0af63e69f0d53c145c0855faed4224c5456d681683e5", func := "cofferdam/cofferdamlaw10.BankCut", spec := "bankCut", apart := false }
def BankCutSaid : Prop := bankCutRow.holds Try.pinned (OpenSpec.ofChange bankCutSpec)

/-- ITS FALSE NEIGHBOUR: 'it returns false'. Refute it at one input. -/
def bankCutWrong : ChangeSpec := { name := "bankCut", fn := fun _ => fun
  | [d1, d2] => { results := [.lit (.bool false)], args := [d1, d2] }
  | _ => none }
def BankCutWrongFalsely : Prop := bankCutRow.holds Try.pinned (OpenSpec.ofChange bankCutWrong)

/-- 'cofferdamlaw10.BankNil': WHATEVER THE INPUT: true; the input reads as it did. -/
def bankNilSpec : ChangeSpec := { name := "bankNil", fn := fun _ => fun
  | [d] => { results := [.lit (.bool true)], args := [d] }
  | _ => none }
def bankNilRow : OpenClaim := { program := "ytkfokpkpobjoeaa", sum := "0c09f819b28ca6c3a60c0af63e69f0d53c145c0855faed4224c5456d681683e5", func := "cofferdam/cofferdamlaw10.BankNil", spec := "bankNil", apart := false }
def BankNilSaid : Prop := bankNilRow.holds Try.pinned (OpenSpec.ofChange bankNilSpec)

/-- ITS FALSE NEIGHBOUR: 'it returns false'. Refute it at one input. -/
def bankNilWrong : ChangeSpec := { name := "bankNil", fn := fun _ => fun
  | [d] => { results := [.lit (.bool false)], args := [d] }
  | _ => none }
def BankNilWrongFalsely : Prop := bankNilRow.holds Try.pinned (OpenSpec.ofChange bankNilWrong)

/-- 'cofferdamlaw10.BankApart': WHATEVER THE INPUT: true; the input reads as it did. -/
def bankApartSpec : ChangeSpec := { name := "bankApart", fn := fun _ => fun
  | [d1, d2, d3] => { results := [.lit (.bool true)], args := [d1, d2, d3] }
  | _ => none }
def bankApartRow : OpenClaim := { program := "ytkfokpkpobjoeaa", sum := "0c09f819b28ca6c3a60c0af63e69f0d53c145c0855faed4224c5456d681683e5", func := "cofferdam/cofferdamlaw10.BankApart", spec := "bankApart", apart := false }
def BankApartSaid : Prop := bankApartRow.holds Try.pinned (OpenSpec.ofChange bankApartSpec)

/-- ITS FALSE NEIGHBOUR: 'it returns false'. Refute it at one input. -/
def bankApartWrong : ChangeSpec := { name := "bankApart", fn := fun _ => fun
  | [d1, d2, d3] => { results := [.lit (.bool false)], args := [d1, d2, d3] }
  | _ => none }
def BankApartWrongFalsely : Prop := bankApartRow.holds Try.pinned (OpenSpec.ofChange bankApartWrong)

/-- 'cofferdamlaw10.BankPlays': WHATEVER THE INPUT: true; the input reads as it did. -/
def bankPlaysSpec : ChangeSpec := { name := "bankPlays", fn := fun _ => fun
  | [d1, d2, d3] => { results := [.lit (.bool true)], args := [d1, d2, d3] }
  | _ => none }
def bankPlaysRow : OpenClaim := { program := "ytkfokpkpobjoeaa", sum := "0c09f819b28ca6c3a60c0af63e69f0d53c145c0855faed4224c5456d681683e5", func := "cofferdam/cofferdamlaw10.BankPlays", spec := "bankPlays", apart := false }
def BankPlaysSaid : Prop := bankPlaysRow.holds Try.pinned (OpenSpec.ofChange bankPlaysSpec)

/-- ITS FALSE NEIGHBOUR: 'it returns false'. Refute it at one input. -/
def bankPlaysWrong : ChangeSpec := { name := "bankPlays", fn := fun _ => fun
  | [d1, d2, d3] => { results := [.lit (.bool false)], args := [d1, d2, d3] }
  | _ => none }
def BankPlaysWrongFalsely : Prop := bankPlaysRow.holds Try.pinned (OpenSpec.ofChange bankPlaysWrong)

/-- 'cofferdamlaw10.BankSteps': WHATEVER THE INPUT: true; the input reads as it did. -/
def bankStepsSpec : ChangeSpec := { name := "bankSteps", fn := fun _ => fun
  | [d] => { results := [.lit (.bool true)], args := [d] }
  | _ => none }
def bankStepsRow : OpenClaim := { program := "ytkfokpkpobjoeaa", sum := "0c09f819b28ca6c3a60c0af63e69f0d53c145c0855faed4224c5456d681683e5", func := "cofferdam/cofferdamlaw10.BankSteps", spec := "bankSteps", unfollowed := true, recurses := true, apart := false }
def BankStepsSaid : Prop := bankStepsRow.holds Try.pinned (OpenSpec.ofChange bankStepsSpec)

/-- ITS FALSE NEIGHBOUR: 'it returns false'. Refute it at one input. -/
def bankStepsWrong : ChangeSpec := { name := "bankSteps", fn := fun _ => fun
  | [d] => { results := [.lit (.bool false)], args := [d] }
  | _ => none }
def BankStepsWrongFalsely : Prop := bankStepsRow.holds Try.pinned (OpenSpec.ofChange bankStepsWrong)

/- THE SECOND FORM. 'bulk': how many values and letters a reading holds, each counted each time it is reached (what is shared counts as often as it is met; a slice's spare places count too). A statement '..UptoSaid' is the law's where the arguments, and the package variables that the reading takes, are together of bulk at most 1048576: NARROWER than '..Said'. Prove '..Said' where nothing that the law and all that it calls make is longer than what came in: it says more and counts as full. Else prove '..UptoSaid'. A law counts once. -/
mutual
def uptoBulk {H : Type} : DataW H → Nat
  | .lit (.string bytes) => bytes.length + 1
  | .lit _ => 1
  | .nil => 1
  | .ptr d => uptoBulk d + 1
  | .slice elems spare => uptoBulkAll elems + uptoBulkAll spare + 1
  | .agg parts => uptoBulkAll parts + 1
  | .iface _ d => uptoBulk d + 1
  | .map entries => uptoBulkEntries entries + 1
  | .held _ => 1
def uptoBulkAll {H : Type} : List (DataW H) → Nat
  | [] => 0
  | d :: r => uptoBulk d + uptoBulkAll r
def uptoBulkEntries {H : Type} : List (Lit × DataW H) → Nat
  | [] => 0
  | x :: r => uptoBulkEntry x + uptoBulkEntries r
def uptoBulkEntry {H : Type} : Lit × DataW H → Nat
  | (.string bytes, d) => bytes.length + uptoBulk d + 1
  | (_, d) => uptoBulk d + 1
 end
def uptoSmall : (H : Type) → List (DataW H) → Bool := fun _ ds => decide (uptoBulkAll ds ≤ 1048576)
def OpenSpec.upto (s : _root_.Go.ChangeSpec) : _root_.Go.OpenSpec := { _root_.Go.OpenSpec.ofChange s with cond := some uptoSmall }

/-- 'cofferdamlaw09.DiskLasts', WHERE WHAT IT READS IS OF BULK AT MOST 1048576: true; the input reads as it did. -/
def diskLastsUptoRow : OpenClaim := { program := "ytkfokpkpobjoeaa", sum := "0c09f819b28ca6c3a60c0af63e69f0d53c145c0855faed4224c5456d681683e5", func := "cofferdam/cofferdamlaw09.DiskLasts", spec := "diskLasts", apart := false, narrowed := true }
def DiskLastsUptoSaid : Prop := diskLastsUptoRow.holds Try.pinned (OpenSpec.upto diskLastsSpec)

/-- 'cofferdamlaw09.DiskAll', WHERE WHAT IT READS IS OF BULK AT MOST 1048576: true; the input reads as it did. -/
def diskAllUptoRow : OpenClaim := { program := "ytkfokpkpobjoeaa", sum := "0c09f819b28ca6c3a60c0af63e69f0d53c145c0855faed4224c5456d681683e5", func := "cofferdam/cofferdamlaw09.DiskAll", spec := "diskAll", apart := false, narrowed := true }
def DiskAllUptoSaid : Prop := diskAllUptoRow.holds Try.pinned (OpenSpec.upto diskAllSpec)

/-- 'cofferdamlaw09.DiskPlays', WHERE WHAT IT READS IS OF BULK AT MOST 1048576: true; the input reads as it did. -/
def diskPlaysUptoRow : OpenClaim := { program := "ytkfokpkpobjoeaa", sum := "0c09f819b28ca6c3a60c0af63e69f0d53c145c0855faed4224c5456d681683e5", func := "cofferdam/cofferdamlaw09.DiskPlays", spec := "diskPlays", unfollowed := true, recurses := true, apart := false, narrowed := true }
def DiskPlaysUptoSaid : Prop := diskPlaysUptoRow.holds Try.pinned (OpenSpec.upto diskPlaysSpec)

/-- 'cofferdamlaw09.DiskRestores', WHERE WHAT IT READS IS OF BULK AT MOST 1048576: true; the input reads as it did. -/
def diskRestoresUptoRow : OpenClaim := { program := "ytkfokpkpobjoeaa", sum := "0c09f819b28ca6c3a60c0af63e69f0d53c145c0855faed4224c5456d681683e5", func := "cofferdam/cofferdamlaw09.DiskRestores", spec := "diskRestores", unfollowed := true, recurses := true, apart := false, narrowed := true }
def DiskRestoresUptoSaid : Prop := diskRestoresUptoRow.holds Try.pinned (OpenSpec.upto diskRestoresSpec)

/-- 'cofferdamlaw09.DiskDead', WHERE WHAT IT READS IS OF BULK AT MOST 1048576: true; the input reads as it did. -/
def diskDeadUptoRow : OpenClaim := { program := "ytkfokpkpobjoeaa", sum := "0c09f819b28ca6c3a60c0af63e69f0d53c145c0855faed4224c5456d681683e5", func := "cofferdam/cofferdamlaw09.DiskDead", spec := "diskDead", unfollowed := true, recurses := true, apart := false, narrowed := true }
def DiskDeadUptoSaid : Prop := diskDeadUptoRow.holds Try.pinned (OpenSpec.upto diskDeadSpec)

/-- 'cofferdamlaw10.BankCut', WHERE WHAT IT READS IS OF BULK AT MOST 1048576: true; the input reads as it did. -/
def bankCutUptoRow : OpenClaim := { program := "ytkfokpkpobjoeaa", sum := "0c09f819b28ca6c3a60c0af63e69f0d53c145c0855faed4224c5456d681683e5", func := "cofferdam/cofferdamlaw10.BankCut", spec := "bankCut", apart := false, narrowed := true }
def BankCutUptoSaid : Prop := bankCutUptoRow.holds Try.pinned (OpenSpec.upto bankCutSpec)

/-- 'cofferdamlaw10.BankNil', WHERE WHAT IT READS IS OF BULK AT MOST 1048576: true; the input reads as it did. -/
def bankNilUptoRow : OpenClaim := { program := "ytkfokpkpobjoeaa", sum := "0c09f819b28ca6c3a60c0af63e69f0d53c145c0855faed4224c5456d681683e5", func := "cofferdam/cofferdamlaw10.BankNil", spec := "bankNil", apart := false, narrowed := true }
def BankNilUptoSaid : Prop := bankNilUptoRow.holds Try.pinned (OpenSpec.upto bankNilSpec)

/-- 'cofferdamlaw10.BankApart', WHERE WHAT IT READS IS OF BULK AT MOST 1048576: true; the input reads as it did. -/
def bankApartUptoRow : OpenClaim := { program := "ytkfokpkpobjoeaa", sum := "0c09f819b28ca6c3a60c0af63e69f0d53c145c0855faed4224c5456d681683e5", func := "cofferdam/cofferdamlaw10.BankApart", spec := "bankApart", apart := false, narrowed := true }
def BankApartUptoSaid : Prop := bankApartUptoRow.holds Try.pinned (OpenSpec.upto bankApartSpec)

/-- 'cofferdamlaw10.BankPlays', WHERE WHAT IT READS IS OF BULK AT MOST 1048576: true; the input reads as it did. -/
def bankPlaysUptoRow : OpenClaim := { program := "ytkfokpkpobjoeaa", sum := "0c09f819b28ca6c3a60c0af63e69f0d53c145c0855faed4224c5456d681683e5", func := "cofferdam/cofferdamlaw10.BankPlays", spec := "bankPlays", apart := false, narrowed := true }
def BankPlaysUptoSaid : Prop := bankPlaysUptoRow.holds Try.pinned (OpenSpec.upto bankPlaysSpec)

/-- 'cofferdamlaw10.BankSteps', WHERE WHAT IT READS IS OF BULK AT MOST 1048576: true; the input reads as it did. -/
def bankStepsUptoRow : OpenClaim := { program := "ytkfokpkpobjoeaa", sum := "0c09f819b28ca6c3a60c0af63e69f0d53c145c0855faed4224c5456d681683e5", func := "cofferdam/cofferdamlaw10.BankSteps", spec := "bankSteps", unfollowed := true, recurses := true, apart := false, narrowed := true }
def BankStepsUptoSaid : Prop := bankStepsUptoRow.holds Try.pinned (OpenSpec.upto bankStepsSpec)

end Rows
end Go.Proofs.Ytkfokpkpobjoeaa
