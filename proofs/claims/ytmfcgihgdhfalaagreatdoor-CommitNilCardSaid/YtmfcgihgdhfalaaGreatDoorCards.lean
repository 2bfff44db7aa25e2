/-
  DERIVED. GIVEN WITH THE SEED: THE CARDS: each row of YtmfcgihgdhfalaaGreatDoorRows.lean that lists a variable, with what it lists TIED to the program's text (the seventh form; the later family's looks); each row that meets fmt, with fmt's text TOLD by the authors' own Lean function (tested against real Go, not proved from fmt's source: count such statements apart). THE CARD IS WHAT COUNTS. Prove the row's statement (the work); the ties are given (YtmfcgihgdhfalaaGreatDoorTie.lean); close each card by the builder's one call (the guide's Derived/Test/ToyasCard.lean, 'card_holds'). Laid BY PROGRAM, IN A SANDBOX (cutbox-door.mjs). By AI agents, Wed Nov 11 2026. No macro, syntax, notation, axiom, sorry.
-/
import Derived.Test.YtmfcgihgdhfalaaGreatDoorRows
import GoSem.ClaimSeven
namespace Go.Proofs.YtmfcgihgdhfalaaGreatDoor
namespace Rows

/-- THE TIED CARD OF 'cofferdamlaw20.CommitNil'. -/
def commitNilCard : Claim7 := { stood := { row := commitNilRow, standIns := [], harness := (true, "dcf6a4f308545d26e00b03779d268788ae8ff7f31522e1aed78bbec17ee8804f"), looks := false }, kinds := [], alts := [], laidByText := true, laidKinds := [.data, .data, .data, .data, .widerDeep, .data, .data], laidTests := true, laidLooks := .later }
def CommitNilCardSaid : Prop := Claim7.holds Tryz.pinned (.plain (OpenSpec.ofChange commitNilSpec)) commitNilCard

/-- THE TIED CARD OF 'cofferdamlaw20.CommitFormats'. -/
def commitFormatsCard : Claim7 := { stood := { row := commitFormatsRow, standIns := [], harness := (true, "dcf6a4f308545d26e00b03779d268788ae8ff7f31522e1aed78bbec17ee8804f"), looks := false }, kinds := [], alts := [], laidByText := true, laidKinds := [.data, .data, .data, .data, .widerDeep, .data, .data], laidTests := true, laidLooks := .later }
def CommitFormatsCardSaid : Prop := Claim7.holds Tryz.pinned (.plain (OpenSpec.ofChange commitFormatsSpec)) commitFormatsCard

/-- THE TIED CARD OF 'cofferdamlaw20.CommitPlays'. -/
def commitPlaysCard : Claim7 := { stood := { row := commitPlaysRow, standIns := [], harness := (true, "dcf6a4f308545d26e00b03779d268788ae8ff7f31522e1aed78bbec17ee8804f"), looks := false }, kinds := [], alts := [], laidByText := true, laidKinds := [.data, .data, .data, .data, .widerDeep, .data, .data], laidTests := true, laidLooks := .later }
def CommitPlaysCardSaid : Prop := Claim7.holds Tryz.pinned (.plain (OpenSpec.ofChange commitPlaysSpec)) commitPlaysCard

/-- THE TIED CARD OF 'cofferdamlaw20.CommitRefuses'. -/
def commitRefusesCard : Claim7 := { stood := { row := commitRefusesRow, standIns := [], harness := (true, "dcf6a4f308545d26e00b03779d268788ae8ff7f31522e1aed78bbec17ee8804f"), looks := false }, kinds := [], alts := [], laidByText := true, laidKinds := [.data, .data, .data, .data, .widerDeep, .data, .data], laidTests := true, laidLooks := .later }
def CommitRefusesCardSaid : Prop := Claim7.holds Tryz.pinned (.plain (OpenSpec.ofChange commitRefusesSpec)) commitRefusesCard

/-- THE TIED CARD OF 'cofferdamlaw20.CommitCrash'. -/
def commitCrashCard : Claim7 := { stood := { row := commitCrashRow, standIns := [], harness := (true, "dcf6a4f308545d26e00b03779d268788ae8ff7f31522e1aed78bbec17ee8804f"), looks := false }, kinds := [], alts := [], laidByText := true, laidKinds := [.data, .data, .data, .data, .widerDeep, .data, .data], laidTests := true, laidLooks := .later }
def CommitCrashCardSaid : Prop := Claim7.holds Tryz.pinned (.plain (OpenSpec.ofChange commitCrashSpec)) commitCrashCard

/-- THE SECOND FORM's CARD OF 'cofferdamlaw20.CommitNil'. -/
def commitNilUptoCard : Claim7 := { stood := { row := commitNilUptoRow, standIns := [], harness := (true, "dcf6a4f308545d26e00b03779d268788ae8ff7f31522e1aed78bbec17ee8804f"), looks := false }, kinds := [], alts := [], laidByText := true, laidKinds := [.data, .data, .data, .data, .widerDeep, .data, .data], laidTests := true, laidLooks := .later }
def CommitNilUptoCardSaid : Prop := Claim7.holds Tryz.pinned (.plain (OpenSpec.upto commitNilSpec)) commitNilUptoCard

/-- THE SECOND FORM's CARD OF 'cofferdamlaw20.CommitFormats'. -/
def commitFormatsUptoCard : Claim7 := { stood := { row := commitFormatsUptoRow, standIns := [], harness := (true, "dcf6a4f308545d26e00b03779d268788ae8ff7f31522e1aed78bbec17ee8804f"), looks := false }, kinds := [], alts := [], laidByText := true, laidKinds := [.data, .data, .data, .data, .widerDeep, .data, .data], laidTests := true, laidLooks := .later }
def CommitFormatsUptoCardSaid : Prop := Claim7.holds Tryz.pinned (.plain (OpenSpec.upto commitFormatsSpec)) commitFormatsUptoCard

/-- THE SECOND FORM's CARD OF 'cofferdamlaw20.CommitPlays'. -/
def commitPlaysUptoCard : Claim7 := { stood := { row := commitPlaysUptoRow, standIns := [], harness := (true, "dcf6a4f308545d26e00b03779d268788ae8ff7f31522e1aed78bbec17ee8804f"), looks := false }, kinds := [], alts := [], laidByText := true, laidKinds := [.data, .data, .data, .data, .widerDeep, .data, .data], laidTests := true, laidLooks := .later }
def CommitPlaysUptoCardSaid : Prop := Claim7.holds Tryz.pinned (.plain (OpenSpec.upto commitPlaysSpec)) commitPlaysUptoCard

/-- THE SECOND FORM's CARD OF 'cofferdamlaw20.CommitRefuses'. -/
def commitRefusesUptoCard : Claim7 := { stood := { row := commitRefusesUptoRow, standIns := [], harness := (true, "dcf6a4f308545d26e00b03779d268788ae8ff7f31522e1aed78bbec17ee8804f"), looks := false }, kinds := [], alts := [], laidByText := true, laidKinds := [.data, .data, .data, .data, .widerDeep, .data, .data], laidTests := true, laidLooks := .later }
def CommitRefusesUptoCardSaid : Prop := Claim7.holds Tryz.pinned (.plain (OpenSpec.upto commitRefusesSpec)) commitRefusesUptoCard

/-- THE SECOND FORM's CARD OF 'cofferdamlaw20.CommitCrash'. -/
def commitCrashUptoCard : Claim7 := { stood := { row := commitCrashUptoRow, standIns := [], harness := (true, "dcf6a4f308545d26e00b03779d268788ae8ff7f31522e1aed78bbec17ee8804f"), looks := false }, kinds := [], alts := [], laidByText := true, laidKinds := [.data, .data, .data, .data, .widerDeep, .data, .data], laidTests := true, laidLooks := .later }
def CommitCrashUptoCardSaid : Prop := Claim7.holds Tryz.pinned (.plain (OpenSpec.upto commitCrashSpec)) commitCrashUptoCard
end Rows
end Go.Proofs.YtmfcgihgdhfalaaGreatDoor
