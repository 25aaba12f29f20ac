/-
  DERIVED. GIVEN WITH THE SEED: THE CARDS: each row of YtpfhdklbhhpbcaaDoorRows.lean that lists a variable, with what it lists TIED to the program's text (the seventh form; the later family's looks); each row that meets fmt, with fmt's text TOLD by the authors' own Lean function (tested against real Go, not proved from fmt's source: count such statements apart). THE CARD IS WHAT COUNTS. Prove the row's statement (the work); the ties are given (YtpfhdklbhhpbcaaDoorTie.lean); close each card by the builder's one call (the guide's Derived/Test/ToyasCard.lean, 'card_holds'). Laid BY PROGRAM, IN A SANDBOX (cutbox-door.mjs). By AI agents, Wed Nov 11 2026. No macro, syntax, notation, axiom, sorry.
-/
import Derived.Test.YtpfhdklbhhpbcaaDoorRows
import GoSem.ClaimSeven
namespace Go.Proofs.YtpfhdklbhhpbcaaDoor
namespace Rows

/-- THE TIED CARD OF 'incunablelaw07.PathqRight'. -/
def pathqRightCard : Claim7 := { stood := { row := pathqRightRow, standIns := [], harness := (true, "14d487cc2c35f616275b9bf33b81fb636ca4716f79ed67b52c31378c73a9391c"), looks := false }, kinds := [], alts := [], laidByText := true, laidKinds := [.data, .data, .data], laidTests := true, laidLooks := .later }
def PathqRightCardSaid : Prop := Claim7.holds Tryd.pinned (.plain (OpenSpec.ofChange pathqRightSpec)) pathqRightCard

/-- THE TIED CARD OF 'incunablelaw07.PathqBack'. -/
def pathqBackCard : Claim7 := { stood := { row := pathqBackRow, standIns := [], harness := (true, "14d487cc2c35f616275b9bf33b81fb636ca4716f79ed67b52c31378c73a9391c"), looks := false }, kinds := [], alts := [], laidByText := true, laidKinds := [.data, .data, .data], laidTests := true, laidLooks := .later }
def PathqBackCardSaid : Prop := Claim7.holds Tryd.pinned (.plain (OpenSpec.ofChange pathqBackSpec)) pathqBackCard

/-- THE TIED CARD OF 'incunablelaw07.PathqAgain'. -/
def pathqAgainCard : Claim7 := { stood := { row := pathqAgainRow, standIns := [], harness := (true, "14d487cc2c35f616275b9bf33b81fb636ca4716f79ed67b52c31378c73a9391c"), looks := false }, kinds := [], alts := [], laidByText := true, laidKinds := [.data, .data, .data], laidTests := true, laidLooks := .later }
def PathqAgainCardSaid : Prop := Claim7.holds Tryd.pinned (.plain (OpenSpec.ofChange pathqAgainSpec)) pathqAgainCard

/-- THE TIED CARD OF 'incunablelaw07.PathqJoins'. -/
def pathqJoinsCard : Claim7 := { stood := { row := pathqJoinsRow, standIns := [], harness := (true, "14d487cc2c35f616275b9bf33b81fb636ca4716f79ed67b52c31378c73a9391c"), looks := false }, kinds := [], alts := [], laidByText := true, laidKinds := [.data, .data, .data], laidTests := true, laidLooks := .later }
def PathqJoinsCardSaid : Prop := Claim7.holds Tryd.pinned (.plain (OpenSpec.ofChange pathqJoinsSpec)) pathqJoinsCard

/-- THE TIED CARD OF 'incunablelaw07.PathqPlaces'. -/
def pathqPlacesCard : Claim7 := { stood := { row := pathqPlacesRow, standIns := [], harness := (true, "14d487cc2c35f616275b9bf33b81fb636ca4716f79ed67b52c31378c73a9391c"), looks := false }, kinds := [], alts := [], laidByText := true, laidKinds := [.data, .data, .data], laidTests := true, laidLooks := .later }
def PathqPlacesCardSaid : Prop := Claim7.holds Tryd.pinned (.plain (OpenSpec.ofChange pathqPlacesSpec)) pathqPlacesCard

/-- THE TIED CARD OF 'incunablelaw07.PathqShort'. -/
def pathqShortCard : Claim7 := { stood := { row := pathqShortRow, standIns := [], harness := (true, "14d487cc2c35f616275b9bf33b81fb636ca4716f79ed67b52c31378c73a9391c"), looks := false }, kinds := [], alts := [], laidByText := true, laidKinds := [.data, .data, .data], laidTests := true, laidLooks := .later }
def PathqShortCardSaid : Prop := Claim7.holds Tryd.pinned (.plain (OpenSpec.ofChange pathqShortSpec)) pathqShortCard

/-- THE SECOND FORM's CARD OF 'incunablelaw07.PathqRight'. -/
def pathqRightUptoCard : Claim7 := { stood := { row := pathqRightUptoRow, standIns := [], harness := (true, "14d487cc2c35f616275b9bf33b81fb636ca4716f79ed67b52c31378c73a9391c"), looks := false }, kinds := [], alts := [], laidByText := true, laidKinds := [.data, .data, .data], laidTests := true, laidLooks := .later }
def PathqRightUptoCardSaid : Prop := Claim7.holds Tryd.pinned (.plain (OpenSpec.upto pathqRightSpec)) pathqRightUptoCard

/-- THE SECOND FORM's CARD OF 'incunablelaw07.PathqBack'. -/
def pathqBackUptoCard : Claim7 := { stood := { row := pathqBackUptoRow, standIns := [], harness := (true, "14d487cc2c35f616275b9bf33b81fb636ca4716f79ed67b52c31378c73a9391c"), looks := false }, kinds := [], alts := [], laidByText := true, laidKinds := [.data, .data, .data], laidTests := true, laidLooks := .later }
def PathqBackUptoCardSaid : Prop := Claim7.holds Tryd.pinned (.plain (OpenSpec.upto pathqBackSpec)) pathqBackUptoCard

/-- THE SECOND FORM's CARD OF 'incunablelaw07.PathqAgain'. -/
def pathqAgainUptoCard : Claim7 := { stood := { row := pathqAgainUptoRow, standIns := [], harness := (true, "14d487cc2c35f616275b9bf33b81fb636ca4716f79ed67b52c31378c73a9391c"), looks := false }, kinds := [], alts := [], laidByText := true, laidKinds := [.data, .data, .data], laidTests := true, laidLooks := .later }
def PathqAgainUptoCardSaid : Prop := Claim7.holds Tryd.pinned (.plain (OpenSpec.upto pathqAgainSpec)) pathqAgainUptoCard

/-- THE SECOND FORM's CARD OF 'incunablelaw07.PathqJoins'. -/
def pathqJoinsUptoCard : Claim7 := { stood := { row := pathqJoinsUptoRow, standIns := [], harness := (true, "14d487cc2c35f616275b9bf33b81fb636ca4716f79ed67b52c31378c73a9391c"), looks := false }, kinds := [], alts := [], laidByText := true, laidKinds := [.data, .data, .data], laidTests := true, laidLooks := .later }
def PathqJoinsUptoCardSaid : Prop := Claim7.holds Tryd.pinned (.plain (OpenSpec.upto pathqJoinsSpec)) pathqJoinsUptoCard

/-- THE SECOND FORM's CARD OF 'incunablelaw07.PathqPlaces'. -/
def pathqPlacesUptoCard : Claim7 := { stood := { row := pathqPlacesUptoRow, standIns := [], harness := (true, "14d487cc2c35f616275b9bf33b81fb636ca4716f79ed67b52c31378c73a9391c"), looks := false }, kinds := [], alts := [], laidByText := true, laidKinds := [.data, .data, .data], laidTests := true, laidLooks := .later }
def PathqPlacesUptoCardSaid : Prop := Claim7.holds Tryd.pinned (.plain (OpenSpec.upto pathqPlacesSpec)) pathqPlacesUptoCard

/-- THE SECOND FORM's CARD OF 'incunablelaw07.PathqShort'. -/
def pathqShortUptoCard : Claim7 := { stood := { row := pathqShortUptoRow, standIns := [], harness := (true, "14d487cc2c35f616275b9bf33b81fb636ca4716f79ed67b52c31378c73a9391c"), looks := false }, kinds := [], alts := [], laidByText := true, laidKinds := [.data, .data, .data], laidTests := true, laidLooks := .later }
def PathqShortUptoCardSaid : Prop := Claim7.holds Tryd.pinned (.plain (OpenSpec.upto pathqShortSpec)) pathqShortUptoCard
end Rows
end Go.Proofs.YtpfhdklbhhpbcaaDoor
