/-
  DERIVED. GIVEN WITH THE SEED: THE CARDS: each row of YtjcjdgmojkkioaaGreatDoorRows.lean that lists a variable, with what it lists TIED to the program's text (the seventh form; the later family's looks); each row that meets fmt, with fmt's text TOLD by the authors' own Lean function (tested against real Go, not proved from fmt's source: count such statements apart). THE CARD IS WHAT COUNTS. Prove the row's statement (the work); the ties are given (YtjcjdgmojkkioaaGreatDoorTie.lean); close each card by the builder's one call (the guide's Derived/Test/ToyasCard.lean, 'card_holds'). Laid BY PROGRAM, IN A SANDBOX (cutbox-door.mjs). By AI agents, Wed Nov 11 2026. No macro, syntax, notation, axiom, sorry.
-/
import Derived.Test.YtjcjdgmojkkioaaGreatDoorRows
import GoSem.ClaimSeven
namespace Go.Proofs.YtjcjdgmojkkioaaGreatDoor
namespace Rows

/-- THE TIED CARD OF 'landaidtop.TopAmended'. -/
def topAmendedCard : Claim7 := { stood := { row := topAmendedRow, standIns := [], harness := (true, "5658e6d52d640674226bc2f7ea28eab9b90ae5afb44dcec79fa42436e0f09961"), looks := false }, kinds := [], alts := [], laidByText := true, laidKinds := [.data, .pinned], laidTests := true, laidLooks := .later }
def TopAmendedCardSaid : Prop := Claim7.holds Tryz.pinned (.plain (OpenSpec.ofChange topAmendedSpec)) topAmendedCard

/-- THE TIED CARD OF 'landaidtop.TopIdentity'. -/
def topIdentityCard : Claim7 := { stood := { row := topIdentityRow, standIns := [], harness := (true, "5658e6d52d640674226bc2f7ea28eab9b90ae5afb44dcec79fa42436e0f09961"), looks := false }, kinds := [], alts := [], laidByText := true, laidKinds := [.data, .pinned], laidTests := true, laidLooks := .later }
def TopIdentityCardSaid : Prop := Claim7.holds Tryz.pinned (.plain (OpenSpec.ofChange topIdentitySpec)) topIdentityCard

/-- THE TIED CARD OF 'landaidtop.TopCorrected'. -/
def topCorrectedCard : Claim7 := { stood := { row := topCorrectedRow, standIns := [], harness := (true, "5658e6d52d640674226bc2f7ea28eab9b90ae5afb44dcec79fa42436e0f09961"), looks := false }, kinds := [], alts := [], laidByText := true, laidKinds := [.data, .pinned], laidTests := true, laidLooks := .later }
def TopCorrectedCardSaid : Prop := Claim7.holds Tryz.pinned (.plain (OpenSpec.ofChange topCorrectedSpec)) topCorrectedCard

/-- THE SECOND FORM's CARD OF 'landaidtop.TopAmended'. -/
def topAmendedUptoCard : Claim7 := { stood := { row := topAmendedUptoRow, standIns := [], harness := (true, "5658e6d52d640674226bc2f7ea28eab9b90ae5afb44dcec79fa42436e0f09961"), looks := false }, kinds := [], alts := [], laidByText := true, laidKinds := [.data, .pinned], laidTests := true, laidLooks := .later }
def TopAmendedUptoCardSaid : Prop := Claim7.holds Tryz.pinned (.plain (OpenSpec.upto topAmendedSpec)) topAmendedUptoCard

/-- THE SECOND FORM's CARD OF 'landaidtop.TopIdentity'. -/
def topIdentityUptoCard : Claim7 := { stood := { row := topIdentityUptoRow, standIns := [], harness := (true, "5658e6d52d640674226bc2f7ea28eab9b90ae5afb44dcec79fa42436e0f09961"), looks := false }, kinds := [], alts := [], laidByText := true, laidKinds := [.data, .pinned], laidTests := true, laidLooks := .later }
def TopIdentityUptoCardSaid : Prop := Claim7.holds Tryz.pinned (.plain (OpenSpec.upto topIdentitySpec)) topIdentityUptoCard

/-- THE SECOND FORM's CARD OF 'landaidtop.TopCorrected'. -/
def topCorrectedUptoCard : Claim7 := { stood := { row := topCorrectedUptoRow, standIns := [], harness := (true, "5658e6d52d640674226bc2f7ea28eab9b90ae5afb44dcec79fa42436e0f09961"), looks := false }, kinds := [], alts := [], laidByText := true, laidKinds := [.data, .pinned], laidTests := true, laidLooks := .later }
def TopCorrectedUptoCardSaid : Prop := Claim7.holds Tryz.pinned (.plain (OpenSpec.upto topCorrectedSpec)) topCorrectedUptoCard
end Rows
end Go.Proofs.YtjcjdgmojkkioaaGreatDoor
