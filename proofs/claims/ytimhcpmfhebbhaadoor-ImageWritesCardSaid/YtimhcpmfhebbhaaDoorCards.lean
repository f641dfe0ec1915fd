/-
  DERIVED. GIVEN WITH THE SEED: THE CARDS: each row of YtimhcpmfhebbhaaDoorRows.lean that lists a variable, with what it lists TIED to the program's text (the seventh form; the later family's looks); each row that meets fmt, with fmt's text TOLD by the authors' own Lean function (tested against real Go, not proved from fmt's source: count such statements apart). THE CARD IS WHAT COUNTS. Prove the row's statement (the work); the ties are given (YtimhcpmfhebbhaaDoorTie.lean); close each card by the builder's one call (the guide's Derived/Test/ToyasCard.lean, 'card_holds'). Laid BY PROGRAM, IN A SANDBOX (cutbox-door.mjs). By AI agents, Wed Nov 11 2026. No macro, syntax, notation, axiom, sorry.
-/
import Derived.Test.YtimhcpmfhebbhaaDoorRows
import GoSem.ClaimSeven
namespace Go.Proofs.YtimhcpmfhebbhaaDoor
namespace Rows

/-- THE TIED CARD OF 'cotterlaw08.ImageWrites'. -/
def imageWritesCard : Claim7 := { stood := { row := imageWritesRow, standIns := [], harness := (true, "333d142891bca7d506dbde314c185d390f387218dbcfdd84148899f31f5a5bf0"), looks := true }, kinds := [], alts := [], laidByText := true, laidKinds := [.data], laidTests := true, laidLooks := .later }
def ImageWritesCardSaid : Prop := Claim7.holds Tryd.pinned (.plain (OpenSpec.ofChange imageWritesSpec)) imageWritesCard

/-- THE TIED CARD OF 'cotterlaw08.ImageReads'. -/
def imageReadsCard : Claim7 := { stood := { row := imageReadsRow, standIns := [], harness := (true, "333d142891bca7d506dbde314c185d390f387218dbcfdd84148899f31f5a5bf0"), looks := true }, kinds := [], alts := [], laidByText := true, laidKinds := [.data], laidTests := true, laidLooks := .later }
def ImageReadsCardSaid : Prop := Claim7.holds Tryd.pinned (.plain (OpenSpec.ofChange imageReadsSpec)) imageReadsCard

/-- THE TIED CARD OF 'cotterlaw08.ImageBack'. -/
def imageBackCard : Claim7 := { stood := { row := imageBackRow, standIns := [], harness := (true, "333d142891bca7d506dbde314c185d390f387218dbcfdd84148899f31f5a5bf0"), looks := true }, kinds := [], alts := [], laidByText := true, laidKinds := [.data], laidTests := true, laidLooks := .later }
def ImageBackCardSaid : Prop := Claim7.holds Tryd.pinned (.plain (OpenSpec.ofChange imageBackSpec)) imageBackCard

/-- THE TIED CARD OF 'cotterlaw08.ImageRuns'. -/
def imageRunsCard : Claim7 := { stood := { row := imageRunsRow, standIns := [], harness := (true, "333d142891bca7d506dbde314c185d390f387218dbcfdd84148899f31f5a5bf0"), looks := true }, kinds := [], alts := [], laidByText := true, laidKinds := [.data], laidTests := true, laidLooks := .later }
def ImageRunsCardSaid : Prop := Claim7.holds Tryd.pinned (.plain (OpenSpec.ofChange imageRunsSpec)) imageRunsCard

/-- THE SECOND FORM's CARD OF 'cotterlaw08.ImageWrites'. -/
def imageWritesUptoCard : Claim7 := { stood := { row := imageWritesUptoRow, standIns := [], harness := (true, "333d142891bca7d506dbde314c185d390f387218dbcfdd84148899f31f5a5bf0"), looks := true }, kinds := [], alts := [], laidByText := true, laidKinds := [.data], laidTests := true, laidLooks := .later }
def ImageWritesUptoCardSaid : Prop := Claim7.holds Tryd.pinned (.plain (OpenSpec.upto imageWritesSpec)) imageWritesUptoCard

/-- THE SECOND FORM's CARD OF 'cotterlaw08.ImageReads'. -/
def imageReadsUptoCard : Claim7 := { stood := { row := imageReadsUptoRow, standIns := [], harness := (true, "333d142891bca7d506dbde314c185d390f387218dbcfdd84148899f31f5a5bf0"), looks := true }, kinds := [], alts := [], laidByText := true, laidKinds := [.data], laidTests := true, laidLooks := .later }
def ImageReadsUptoCardSaid : Prop := Claim7.holds Tryd.pinned (.plain (OpenSpec.upto imageReadsSpec)) imageReadsUptoCard

/-- THE SECOND FORM's CARD OF 'cotterlaw08.ImageBack'. -/
def imageBackUptoCard : Claim7 := { stood := { row := imageBackUptoRow, standIns := [], harness := (true, "333d142891bca7d506dbde314c185d390f387218dbcfdd84148899f31f5a5bf0"), looks := true }, kinds := [], alts := [], laidByText := true, laidKinds := [.data], laidTests := true, laidLooks := .later }
def ImageBackUptoCardSaid : Prop := Claim7.holds Tryd.pinned (.plain (OpenSpec.upto imageBackSpec)) imageBackUptoCard

/-- THE SECOND FORM's CARD OF 'cotterlaw08.ImageRuns'. -/
def imageRunsUptoCard : Claim7 := { stood := { row := imageRunsUptoRow, standIns := [], harness := (true, "333d142891bca7d506dbde314c185d390f387218dbcfdd84148899f31f5a5bf0"), looks := true }, kinds := [], alts := [], laidByText := true, laidKinds := [.data], laidTests := true, laidLooks := .later }
def ImageRunsUptoCardSaid : Prop := Claim7.holds Tryd.pinned (.plain (OpenSpec.upto imageRunsSpec)) imageRunsUptoCard
end Rows
end Go.Proofs.YtimhcpmfhebbhaaDoor
