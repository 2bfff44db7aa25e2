/-
  DERIVED. GIVEN WITH THE SEED: THE CARDS: each row of YthegnmanjdlmjaaGreatDoorRows.lean that lists a variable, with what it lists TIED to the program's text (the seventh form; the later family's looks); each row that meets fmt, with fmt's text TOLD by the authors' own Lean function (tested against real Go, not proved from fmt's source: count such statements apart). THE CARD IS WHAT COUNTS. Prove the row's statement (the work); the ties are given (YthegnmanjdlmjaaGreatDoorTie.lean); close each card by the builder's one call (the guide's Derived/Test/ToyasCard.lean, 'card_holds'). Laid BY PROGRAM, IN A SANDBOX (cutbox-door.mjs). By AI agents, Wed Nov 11 2026. No macro, syntax, notation, axiom, sorry.
-/
import Derived.Test.YthegnmanjdlmjaaGreatDoorRows
import GoSem.ClaimSeven
namespace Go.Proofs.YthegnmanjdlmjaaGreatDoor
namespace Rows

/-- THE TIED CARD OF 'cofferdamlaw17.SlabKeeps'. -/
def slabKeepsCard : Claim7 := { stood := { row := slabKeepsRow, standIns := [], harness := (true, "d0ed448db9f53e074ef89053d04973000a802403c7d3535fd93421d33a640f7a"), looks := false }, kinds := [], alts := [], laidByText := true, laidKinds := [.data, .data, .data, .data, .data, .data], laidTests := true, laidLooks := .later }
def SlabKeepsCardSaid : Prop := Claim7.holds Tryz.pinned (.plain (OpenSpec.ofChange slabKeepsSpec)) slabKeepsCard

/-- THE TIED CARD OF 'cofferdamlaw17.SlabForm'. -/
def slabFormCard : Claim7 := { stood := { row := slabFormRow, standIns := [], harness := (true, "d0ed448db9f53e074ef89053d04973000a802403c7d3535fd93421d33a640f7a"), looks := false }, kinds := [], alts := [], laidByText := true, laidKinds := [.data, .data, .data, .data, .data, .data], laidTests := true, laidLooks := .later }
def SlabFormCardSaid : Prop := Claim7.holds Tryz.pinned (.plain (OpenSpec.ofChange slabFormSpec)) slabFormCard

/-- THE TIED CARD OF 'cofferdamlaw17.SlabQuiet'. -/
def slabQuietCard : Claim7 := { stood := { row := slabQuietRow, standIns := [], harness := (true, "d0ed448db9f53e074ef89053d04973000a802403c7d3535fd93421d33a640f7a"), looks := false }, kinds := [], alts := [], laidByText := true, laidKinds := [.data, .data, .data, .data, .data, .data], laidTests := true, laidLooks := .later }
def SlabQuietCardSaid : Prop := Claim7.holds Tryz.pinned (.plain (OpenSpec.ofChange slabQuietSpec)) slabQuietCard

/-- THE TIED CARD OF 'cofferdamlaw17.SlabTells'. -/
def slabTellsCard : Claim7 := { stood := { row := slabTellsRow, standIns := [], harness := (true, "d0ed448db9f53e074ef89053d04973000a802403c7d3535fd93421d33a640f7a"), looks := false }, kinds := [], alts := [], laidByText := true, laidKinds := [.data, .data, .data, .data, .data, .data], laidTests := true, laidLooks := .later }
def SlabTellsCardSaid : Prop := Claim7.holds Tryz.pinned (.plain (OpenSpec.ofChange slabTellsSpec)) slabTellsCard

/-- THE TIED CARD OF 'cofferdamlaw17.SlabPlays'. -/
def slabPlaysCard : Claim7 := { stood := { row := slabPlaysRow, standIns := [], harness := (true, "d0ed448db9f53e074ef89053d04973000a802403c7d3535fd93421d33a640f7a"), looks := false }, kinds := [], alts := [], laidByText := true, laidKinds := [.data, .data, .data, .data, .data, .data], laidTests := true, laidLooks := .later }
def SlabPlaysCardSaid : Prop := Claim7.holds Tryz.pinned (.plain (OpenSpec.ofChange slabPlaysSpec)) slabPlaysCard

/-- THE TIED CARD OF 'cofferdamlaw19.StripeMakes'. -/
def stripeMakesCard : Claim7 := { stood := { row := stripeMakesRow, standIns := [], harness := (true, "d0ed448db9f53e074ef89053d04973000a802403c7d3535fd93421d33a640f7a"), looks := false }, kinds := [], alts := [], laidByText := true, laidKinds := [.data, .data, .data, .data], laidTests := true, laidLooks := .later }
def StripeMakesCardSaid : Prop := Claim7.holds Tryz.pinned (.plain (OpenSpec.ofChange stripeMakesSpec)) stripeMakesCard

/-- THE TIED CARD OF 'cofferdamlaw19.StripeThree'. -/
def stripeThreeCard : Claim7 := { stood := { row := stripeThreeRow, standIns := [], harness := (true, "d0ed448db9f53e074ef89053d04973000a802403c7d3535fd93421d33a640f7a"), looks := false }, kinds := [], alts := [], laidByText := true, laidKinds := [.data, .data, .data, .data], laidTests := true, laidLooks := .later }
def StripeThreeCardSaid : Prop := Claim7.holds Tryz.pinned (.plain (OpenSpec.ofChange stripeThreeSpec)) stripeThreeCard

/-- THE TIED CARD OF 'cofferdamlaw19.StripeTwo'. -/
def stripeTwoCard : Claim7 := { stood := { row := stripeTwoRow, standIns := [], harness := (true, "d0ed448db9f53e074ef89053d04973000a802403c7d3535fd93421d33a640f7a"), looks := false }, kinds := [], alts := [], laidByText := true, laidKinds := [.data, .data, .data, .data], laidTests := true, laidLooks := .later }
def StripeTwoCardSaid : Prop := Claim7.holds Tryz.pinned (.plain (OpenSpec.ofChange stripeTwoSpec)) stripeTwoCard

/-- THE TIED CARD OF 'cofferdamlaw19.StripeEach'. -/
def stripeEachCard : Claim7 := { stood := { row := stripeEachRow, standIns := [], harness := (true, "d0ed448db9f53e074ef89053d04973000a802403c7d3535fd93421d33a640f7a"), looks := false }, kinds := [], alts := [], laidByText := true, laidKinds := [.data, .data, .data, .data], laidTests := true, laidLooks := .later }
def StripeEachCardSaid : Prop := Claim7.holds Tryz.pinned (.plain (OpenSpec.ofChange stripeEachSpec)) stripeEachCard

/-- THE SECOND FORM's CARD OF 'cofferdamlaw17.SlabKeeps'. -/
def slabKeepsUptoCard : Claim7 := { stood := { row := slabKeepsUptoRow, standIns := [], harness := (true, "d0ed448db9f53e074ef89053d04973000a802403c7d3535fd93421d33a640f7a"), looks := false }, kinds := [], alts := [], laidByText := true, laidKinds := [.data, .data, .data, .data, .data, .data], laidTests := true, laidLooks := .later }
def SlabKeepsUptoCardSaid : Prop := Claim7.holds Tryz.pinned (.plain (OpenSpec.upto slabKeepsSpec)) slabKeepsUptoCard

/-- THE SECOND FORM's CARD OF 'cofferdamlaw17.SlabForm'. -/
def slabFormUptoCard : Claim7 := { stood := { row := slabFormUptoRow, standIns := [], harness := (true, "d0ed448db9f53e074ef89053d04973000a802403c7d3535fd93421d33a640f7a"), looks := false }, kinds := [], alts := [], laidByText := true, laidKinds := [.data, .data, .data, .data, .data, .data], laidTests := true, laidLooks := .later }
def SlabFormUptoCardSaid : Prop := Claim7.holds Tryz.pinned (.plain (OpenSpec.upto slabFormSpec)) slabFormUptoCard

/-- THE SECOND FORM's CARD OF 'cofferdamlaw17.SlabQuiet'. -/
def slabQuietUptoCard : Claim7 := { stood := { row := slabQuietUptoRow, standIns := [], harness := (true, "d0ed448db9f53e074ef89053d04973000a802403c7d3535fd93421d33a640f7a"), looks := false }, kinds := [], alts := [], laidByText := true, laidKinds := [.data, .data, .data, .data, .data, .data], laidTests := true, laidLooks := .later }
def SlabQuietUptoCardSaid : Prop := Claim7.holds Tryz.pinned (.plain (OpenSpec.upto slabQuietSpec)) slabQuietUptoCard

/-- THE SECOND FORM's CARD OF 'cofferdamlaw17.SlabTells'. -/
def slabTellsUptoCard : Claim7 := { stood := { row := slabTellsUptoRow, standIns := [], harness := (true, "d0ed448db9f53e074ef89053d04973000a802403c7d3535fd93421d33a640f7a"), looks := false }, kinds := [], alts := [], laidByText := true, laidKinds := [.data, .data, .data, .data, .data, .data], laidTests := true, laidLooks := .later }
def SlabTellsUptoCardSaid : Prop := Claim7.holds Tryz.pinned (.plain (OpenSpec.upto slabTellsSpec)) slabTellsUptoCard

/-- THE SECOND FORM's CARD OF 'cofferdamlaw17.SlabPlays'. -/
def slabPlaysUptoCard : Claim7 := { stood := { row := slabPlaysUptoRow, standIns := [], harness := (true, "d0ed448db9f53e074ef89053d04973000a802403c7d3535fd93421d33a640f7a"), looks := false }, kinds := [], alts := [], laidByText := true, laidKinds := [.data, .data, .data, .data, .data, .data], laidTests := true, laidLooks := .later }
def SlabPlaysUptoCardSaid : Prop := Claim7.holds Tryz.pinned (.plain (OpenSpec.upto slabPlaysSpec)) slabPlaysUptoCard

/-- THE SECOND FORM's CARD OF 'cofferdamlaw19.StripeMakes'. -/
def stripeMakesUptoCard : Claim7 := { stood := { row := stripeMakesUptoRow, standIns := [], harness := (true, "d0ed448db9f53e074ef89053d04973000a802403c7d3535fd93421d33a640f7a"), looks := false }, kinds := [], alts := [], laidByText := true, laidKinds := [.data, .data, .data, .data], laidTests := true, laidLooks := .later }
def StripeMakesUptoCardSaid : Prop := Claim7.holds Tryz.pinned (.plain (OpenSpec.upto stripeMakesSpec)) stripeMakesUptoCard

/-- THE SECOND FORM's CARD OF 'cofferdamlaw19.StripeThree'. -/
def stripeThreeUptoCard : Claim7 := { stood := { row := stripeThreeUptoRow, standIns := [], harness := (true, "d0ed448db9f53e074ef89053d04973000a802403c7d3535fd93421d33a640f7a"), looks := false }, kinds := [], alts := [], laidByText := true, laidKinds := [.data, .data, .data, .data], laidTests := true, laidLooks := .later }
def StripeThreeUptoCardSaid : Prop := Claim7.holds Tryz.pinned (.plain (OpenSpec.upto stripeThreeSpec)) stripeThreeUptoCard

/-- THE SECOND FORM's CARD OF 'cofferdamlaw19.StripeTwo'. -/
def stripeTwoUptoCard : Claim7 := { stood := { row := stripeTwoUptoRow, standIns := [], harness := (true, "d0ed448db9f53e074ef89053d04973000a802403c7d3535fd93421d33a640f7a"), looks := false }, kinds := [], alts := [], laidByText := true, laidKinds := [.data, .data, .data, .data], laidTests := true, laidLooks := .later }
def StripeTwoUptoCardSaid : Prop := Claim7.holds Tryz.pinned (.plain (OpenSpec.upto stripeTwoSpec)) stripeTwoUptoCard

/-- THE SECOND FORM's CARD OF 'cofferdamlaw19.StripeEach'. -/
def stripeEachUptoCard : Claim7 := { stood := { row := stripeEachUptoRow, standIns := [], harness := (true, "d0ed448db9f53e074ef89053d04973000a802403c7d3535fd93421d33a640f7a"), looks := false }, kinds := [], alts := [], laidByText := true, laidKinds := [.data, .data, .data, .data], laidTests := true, laidLooks := .later }
def StripeEachUptoCardSaid : Prop := Claim7.holds Tryz.pinned (.plain (OpenSpec.upto stripeEachSpec)) stripeEachUptoCard
end Rows
end Go.Proofs.YthegnmanjdlmjaaGreatDoor
