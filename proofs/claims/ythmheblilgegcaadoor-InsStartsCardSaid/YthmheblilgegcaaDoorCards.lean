/-
  DERIVED. GIVEN WITH THE SEED: THE CARDS: each row of YthmheblilgegcaaDoorRows.lean that lists a variable, with what it lists TIED to the program's text (the seventh form; the later family's looks); each row that meets fmt, with fmt's text TOLD by the authors' own Lean function (tested against real Go, not proved from fmt's source: count such statements apart). THE CARD IS WHAT COUNTS. Prove the row's statement (the work); the ties are given (YthmheblilgegcaaDoorTie.lean); close each card by the builder's one call (the guide's Derived/Test/ToyasCard.lean, 'card_holds'). Laid BY PROGRAM, IN A SANDBOX (cutbox-door.mjs). By AI agents, Wed Nov 11 2026. No macro, syntax, notation, axiom, sorry.
-/
import Derived.Test.YthmheblilgegcaaDoorRows
import GoSem.ClaimSeven
namespace Go.Proofs.YthmheblilgegcaaDoor
namespace Rows

/-- THE TIED CARD OF 'cotterlaw03.InsEncodes'. -/
def insEncodesCard : Claim7 := { stood := { row := insEncodesRow, standIns := [], harness := (true, "2e739d02f819688ae60e28c708ecc81d6e5a6829323bfd78df106a2c1c2208a7"), looks := false }, kinds := [], alts := [], laidByText := true, laidKinds := [.data], laidTests := true, laidLooks := .later }
def InsEncodesCardSaid : Prop := Claim7.holds Tryd.pinned (.plain (OpenSpec.ofChange insEncodesSpec)) insEncodesCard

/-- THE TIED CARD OF 'cotterlaw03.InsApart'. -/
def insApartCard : Claim7 := { stood := { row := insApartRow, standIns := [], harness := (true, "2e739d02f819688ae60e28c708ecc81d6e5a6829323bfd78df106a2c1c2208a7"), looks := false }, kinds := [], alts := [], laidByText := true, laidKinds := [.data], laidTests := true, laidLooks := .later }
def InsApartCardSaid : Prop := Claim7.holds Tryd.pinned (.plain (OpenSpec.ofChange insApartSpec)) insApartCard

/-- THE TIED CARD OF 'cotterlaw03.InsDecodes'. -/
def insDecodesCard : Claim7 := { stood := { row := insDecodesRow, standIns := [], harness := (true, "2e739d02f819688ae60e28c708ecc81d6e5a6829323bfd78df106a2c1c2208a7"), looks := false }, kinds := [], alts := [], laidByText := true, laidKinds := [.data], laidTests := true, laidLooks := .later }
def InsDecodesCardSaid : Prop := Claim7.holds Tryd.pinned (.plain (OpenSpec.ofChange insDecodesSpec)) insDecodesCard

/-- THE TIED CARD OF 'cotterlaw03.InsBack'. -/
def insBackCard : Claim7 := { stood := { row := insBackRow, standIns := [], harness := (true, "2e739d02f819688ae60e28c708ecc81d6e5a6829323bfd78df106a2c1c2208a7"), looks := false }, kinds := [], alts := [], laidByText := true, laidKinds := [.data], laidTests := true, laidLooks := .later }
def InsBackCardSaid : Prop := Claim7.holds Tryd.pinned (.plain (OpenSpec.ofChange insBackSpec)) insBackCard

/-- THE TIED CARD OF 'cotterlaw03.InsJoined'. -/
def insJoinedCard : Claim7 := { stood := { row := insJoinedRow, standIns := [], harness := (true, "2e739d02f819688ae60e28c708ecc81d6e5a6829323bfd78df106a2c1c2208a7"), looks := false }, kinds := [], alts := [], laidByText := true, laidKinds := [.data], laidTests := true, laidLooks := .later }
def InsJoinedCardSaid : Prop := Claim7.holds Tryd.pinned (.plain (OpenSpec.ofChange insJoinedSpec)) insJoinedCard

/-- THE TIED CARD OF 'cotterlaw03.InsStarts'. -/
def insStartsCard : Claim7 := { stood := { row := insStartsRow, standIns := [], harness := (true, "2e739d02f819688ae60e28c708ecc81d6e5a6829323bfd78df106a2c1c2208a7"), looks := false }, kinds := [], alts := [], laidByText := true, laidKinds := [.data], laidTests := true, laidLooks := .later }
def InsStartsCardSaid : Prop := Claim7.holds Tryd.pinned (.plain (OpenSpec.ofChange insStartsSpec)) insStartsCard

/-- THE SECOND FORM's CARD OF 'cotterlaw03.InsEncodes'. -/
def insEncodesUptoCard : Claim7 := { stood := { row := insEncodesUptoRow, standIns := [], harness := (true, "2e739d02f819688ae60e28c708ecc81d6e5a6829323bfd78df106a2c1c2208a7"), looks := false }, kinds := [], alts := [], laidByText := true, laidKinds := [.data], laidTests := true, laidLooks := .later }
def InsEncodesUptoCardSaid : Prop := Claim7.holds Tryd.pinned (.plain (OpenSpec.upto insEncodesSpec)) insEncodesUptoCard

/-- THE SECOND FORM's CARD OF 'cotterlaw03.InsApart'. -/
def insApartUptoCard : Claim7 := { stood := { row := insApartUptoRow, standIns := [], harness := (true, "2e739d02f819688ae60e28c708ecc81d6e5a6829323bfd78df106a2c1c2208a7"), looks := false }, kinds := [], alts := [], laidByText := true, laidKinds := [.data], laidTests := true, laidLooks := .later }
def InsApartUptoCardSaid : Prop := Claim7.holds Tryd.pinned (.plain (OpenSpec.upto insApartSpec)) insApartUptoCard

/-- THE SECOND FORM's CARD OF 'cotterlaw03.InsDecodes'. -/
def insDecodesUptoCard : Claim7 := { stood := { row := insDecodesUptoRow, standIns := [], harness := (true, "2e739d02f819688ae60e28c708ecc81d6e5a6829323bfd78df106a2c1c2208a7"), looks := false }, kinds := [], alts := [], laidByText := true, laidKinds := [.data], laidTests := true, laidLooks := .later }
def InsDecodesUptoCardSaid : Prop := Claim7.holds Tryd.pinned (.plain (OpenSpec.upto insDecodesSpec)) insDecodesUptoCard

/-- THE SECOND FORM's CARD OF 'cotterlaw03.InsBack'. -/
def insBackUptoCard : Claim7 := { stood := { row := insBackUptoRow, standIns := [], harness := (true, "2e739d02f819688ae60e28c708ecc81d6e5a6829323bfd78df106a2c1c2208a7"), looks := false }, kinds := [], alts := [], laidByText := true, laidKinds := [.data], laidTests := true, laidLooks := .later }
def InsBackUptoCardSaid : Prop := Claim7.holds Tryd.pinned (.plain (OpenSpec.upto insBackSpec)) insBackUptoCard

/-- THE SECOND FORM's CARD OF 'cotterlaw03.InsJoined'. -/
def insJoinedUptoCard : Claim7 := { stood := { row := insJoinedUptoRow, standIns := [], harness := (true, "2e739d02f819688ae60e28c708ecc81d6e5a6829323bfd78df106a2c1c2208a7"), looks := false }, kinds := [], alts := [], laidByText := true, laidKinds := [.data], laidTests := true, laidLooks := .later }
def InsJoinedUptoCardSaid : Prop := Claim7.holds Tryd.pinned (.plain (OpenSpec.upto insJoinedSpec)) insJoinedUptoCard

/-- THE SECOND FORM's CARD OF 'cotterlaw03.InsStarts'. -/
def insStartsUptoCard : Claim7 := { stood := { row := insStartsUptoRow, standIns := [], harness := (true, "2e739d02f819688ae60e28c708ecc81d6e5a6829323bfd78df106a2c1c2208a7"), looks := false }, kinds := [], alts := [], laidByText := true, laidKinds := [.data], laidTests := true, laidLooks := .later }
def InsStartsUptoCardSaid : Prop := Claim7.holds Tryd.pinned (.plain (OpenSpec.upto insStartsSpec)) insStartsUptoCard
end Rows
end Go.Proofs.YthmheblilgegcaaDoor
