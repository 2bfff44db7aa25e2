/-
  DERIVED. GIVEN WITH THE SEED: THE CARDS: each row of YtgkebmhkmedadaaDoorRows.lean that lists a variable, with what it lists TIED to the program's text (the seventh form; the later family's looks); each row that meets fmt, with fmt's text TOLD by the authors' own Lean function (tested against real Go, not proved from fmt's source: count such statements apart). THE CARD IS WHAT COUNTS. Prove the row's statement (the work); the ties are given (YtgkebmhkmedadaaDoorTie.lean); close each card by the builder's one call (the guide's Derived/Test/ToyasCard.lean, 'card_holds'). Laid BY PROGRAM, IN A SANDBOX (cutbox-door.mjs). By AI agents, Wed Nov 11 2026. No macro, syntax, notation, axiom, sorry.
-/
import Derived.Test.YtgkebmhkmedadaaDoorRows
import GoSem.ClaimSeven
namespace Go.Proofs.YtgkebmhkmedadaaDoor
namespace Rows

/-- THE TIED CARD OF 'cofferdamlaw18.LayoutGood'. -/
def layoutGoodCard : Claim7 := { stood := { row := layoutGoodRow, standIns := [], harness := (true, "7234b83c2845d06005bd141269e10e61b9cce29b1dd5fff43ba4c56178b40d0d"), looks := false }, kinds := [], alts := [], laidByText := true, laidKinds := [.widerDeep], laidTests := true, laidLooks := .later }
def LayoutGoodCardSaid : Prop := Claim7.holds Tryd.pinned (.plain (OpenSpec.ofChange layoutGoodSpec)) layoutGoodCard

/-- THE TIED CARD OF 'cofferdamlaw18.LayoutFinds'. -/
def layoutFindsCard : Claim7 := { stood := { row := layoutFindsRow, standIns := [], harness := (true, "7234b83c2845d06005bd141269e10e61b9cce29b1dd5fff43ba4c56178b40d0d"), looks := false }, kinds := [], alts := [], laidByText := true, laidKinds := [.widerDeep], laidTests := true, laidLooks := .later }
def LayoutFindsCardSaid : Prop := Claim7.holds Tryd.pinned (.plain (OpenSpec.ofChange layoutFindsSpec)) layoutFindsCard

/-- THE TIED CARD OF 'cofferdamlaw18.LayoutOnce'. -/
def layoutOnceCard : Claim7 := { stood := { row := layoutOnceRow, standIns := [], harness := (true, "7234b83c2845d06005bd141269e10e61b9cce29b1dd5fff43ba4c56178b40d0d"), looks := false }, kinds := [], alts := [], laidByText := true, laidKinds := [.widerDeep], laidTests := true, laidLooks := .later }
def LayoutOnceCardSaid : Prop := Claim7.holds Tryd.pinned (.plain (OpenSpec.ofChange layoutOnceSpec)) layoutOnceCard

/-- THE TIED CARD OF 'cofferdamlaw18.LayoutSeats'. -/
def layoutSeatsCard : Claim7 := { stood := { row := layoutSeatsRow, standIns := [], harness := (true, "7234b83c2845d06005bd141269e10e61b9cce29b1dd5fff43ba4c56178b40d0d"), looks := false }, kinds := [], alts := [], laidByText := true, laidKinds := [.widerDeep], laidTests := true, laidLooks := .later }
def LayoutSeatsCardSaid : Prop := Claim7.holds Tryd.pinned (.plain (OpenSpec.ofChange layoutSeatsSpec)) layoutSeatsCard

/-- THE TIED CARD OF 'cofferdamlaw18.LayoutRounds'. -/
def layoutRoundsCard : Claim7 := { stood := { row := layoutRoundsRow, standIns := [], harness := (true, "7234b83c2845d06005bd141269e10e61b9cce29b1dd5fff43ba4c56178b40d0d"), looks := false }, kinds := [], alts := [], laidByText := true, laidKinds := [.widerDeep], laidTests := true, laidLooks := .later }
def LayoutRoundsCardSaid : Prop := Claim7.holds Tryd.pinned (.plain (OpenSpec.ofChange layoutRoundsSpec)) layoutRoundsCard

/-- THE TIED CARD OF 'cofferdamlaw18.LayoutSteps'. -/
def layoutStepsCard : Claim7 := { stood := { row := layoutStepsRow, standIns := [], harness := (true, "7234b83c2845d06005bd141269e10e61b9cce29b1dd5fff43ba4c56178b40d0d"), looks := false }, kinds := [], alts := [], laidByText := true, laidKinds := [.widerDeep], laidTests := true, laidLooks := .later }
def LayoutStepsCardSaid : Prop := Claim7.holds Tryd.pinned (.plain (OpenSpec.ofChange layoutStepsSpec)) layoutStepsCard

/-- THE TIED CARD OF 'cofferdamlaw18.LayoutGrows'. -/
def layoutGrowsCard : Claim7 := { stood := { row := layoutGrowsRow, standIns := [], harness := (true, "7234b83c2845d06005bd141269e10e61b9cce29b1dd5fff43ba4c56178b40d0d"), looks := false }, kinds := [], alts := [], laidByText := true, laidKinds := [.widerDeep], laidTests := true, laidLooks := .later }
def LayoutGrowsCardSaid : Prop := Claim7.holds Tryd.pinned (.plain (OpenSpec.ofChange layoutGrowsSpec)) layoutGrowsCard

/-- THE SECOND FORM's CARD OF 'cofferdamlaw18.LayoutGood'. -/
def layoutGoodUptoCard : Claim7 := { stood := { row := layoutGoodUptoRow, standIns := [], harness := (true, "7234b83c2845d06005bd141269e10e61b9cce29b1dd5fff43ba4c56178b40d0d"), looks := false }, kinds := [], alts := [], laidByText := true, laidKinds := [.widerDeep], laidTests := true, laidLooks := .later }
def LayoutGoodUptoCardSaid : Prop := Claim7.holds Tryd.pinned (.plain (OpenSpec.upto layoutGoodSpec)) layoutGoodUptoCard

/-- THE SECOND FORM's CARD OF 'cofferdamlaw18.LayoutFinds'. -/
def layoutFindsUptoCard : Claim7 := { stood := { row := layoutFindsUptoRow, standIns := [], harness := (true, "7234b83c2845d06005bd141269e10e61b9cce29b1dd5fff43ba4c56178b40d0d"), looks := false }, kinds := [], alts := [], laidByText := true, laidKinds := [.widerDeep], laidTests := true, laidLooks := .later }
def LayoutFindsUptoCardSaid : Prop := Claim7.holds Tryd.pinned (.plain (OpenSpec.upto layoutFindsSpec)) layoutFindsUptoCard

/-- THE SECOND FORM's CARD OF 'cofferdamlaw18.LayoutOnce'. -/
def layoutOnceUptoCard : Claim7 := { stood := { row := layoutOnceUptoRow, standIns := [], harness := (true, "7234b83c2845d06005bd141269e10e61b9cce29b1dd5fff43ba4c56178b40d0d"), looks := false }, kinds := [], alts := [], laidByText := true, laidKinds := [.widerDeep], laidTests := true, laidLooks := .later }
def LayoutOnceUptoCardSaid : Prop := Claim7.holds Tryd.pinned (.plain (OpenSpec.upto layoutOnceSpec)) layoutOnceUptoCard

/-- THE SECOND FORM's CARD OF 'cofferdamlaw18.LayoutSeats'. -/
def layoutSeatsUptoCard : Claim7 := { stood := { row := layoutSeatsUptoRow, standIns := [], harness := (true, "7234b83c2845d06005bd141269e10e61b9cce29b1dd5fff43ba4c56178b40d0d"), looks := false }, kinds := [], alts := [], laidByText := true, laidKinds := [.widerDeep], laidTests := true, laidLooks := .later }
def LayoutSeatsUptoCardSaid : Prop := Claim7.holds Tryd.pinned (.plain (OpenSpec.upto layoutSeatsSpec)) layoutSeatsUptoCard

/-- THE SECOND FORM's CARD OF 'cofferdamlaw18.LayoutRounds'. -/
def layoutRoundsUptoCard : Claim7 := { stood := { row := layoutRoundsUptoRow, standIns := [], harness := (true, "7234b83c2845d06005bd141269e10e61b9cce29b1dd5fff43ba4c56178b40d0d"), looks := false }, kinds := [], alts := [], laidByText := true, laidKinds := [.widerDeep], laidTests := true, laidLooks := .later }
def LayoutRoundsUptoCardSaid : Prop := Claim7.holds Tryd.pinned (.plain (OpenSpec.upto layoutRoundsSpec)) layoutRoundsUptoCard

/-- THE SECOND FORM's CARD OF 'cofferdamlaw18.LayoutSteps'. -/
def layoutStepsUptoCard : Claim7 := { stood := { row := layoutStepsUptoRow, standIns := [], harness := (true, "7234b83c2845d06005bd141269e10e61b9cce29b1dd5fff43ba4c56178b40d0d"), looks := false }, kinds := [], alts := [], laidByText := true, laidKinds := [.widerDeep], laidTests := true, laidLooks := .later }
def LayoutStepsUptoCardSaid : Prop := Claim7.holds Tryd.pinned (.plain (OpenSpec.upto layoutStepsSpec)) layoutStepsUptoCard

/-- THE SECOND FORM's CARD OF 'cofferdamlaw18.LayoutGrows'. -/
def layoutGrowsUptoCard : Claim7 := { stood := { row := layoutGrowsUptoRow, standIns := [], harness := (true, "7234b83c2845d06005bd141269e10e61b9cce29b1dd5fff43ba4c56178b40d0d"), looks := false }, kinds := [], alts := [], laidByText := true, laidKinds := [.widerDeep], laidTests := true, laidLooks := .later }
def LayoutGrowsUptoCardSaid : Prop := Claim7.holds Tryd.pinned (.plain (OpenSpec.upto layoutGrowsSpec)) layoutGrowsUptoCard
end Rows
end Go.Proofs.YtgkebmhkmedadaaDoor
