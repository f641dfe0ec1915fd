/-
  DERIVED. GIVEN WITH THE SEED: THE CARDS: each row of YtjlfjkpbooholaaDoorRows.lean that lists a variable, with what it lists TIED to the program's text (the seventh form; the later family's looks); each row that meets fmt, with fmt's text TOLD by the authors' own Lean function (tested against real Go, not proved from fmt's source: count such statements apart). THE CARD IS WHAT COUNTS. Prove the row's statement (the work); the ties are given (YtjlfjkpbooholaaDoorTie.lean); close each card by the builder's one call (the guide's Derived/Test/ToyasCard.lean, 'card_holds'). Laid BY PROGRAM, IN A SANDBOX (cutbox-door.mjs). By AI agents, Wed Nov 11 2026. No macro, syntax, notation, axiom, sorry.
-/
import Derived.Test.YtjlfjkpbooholaaDoorRows
import GoSem.ClaimSeven
namespace Go.Proofs.YtjlfjkpbooholaaDoor
namespace Rows

/-- THE TIED CARD OF 'cotterlaw04.StepStarts'. -/
def stepStartsCard : Claim7 := { stood := { row := stepStartsRow, standIns := [], harness := (true, "f7e6e2fb3f1b90b2c3392208651a3eb44ded1909a24bd32478b10c30c6471d36"), looks := false }, kinds := [], alts := [], laidByText := true, laidKinds := [.data], laidTests := true, laidLooks := .later }
def StepStartsCardSaid : Prop := Claim7.holds Tryd.pinned (.plain (OpenSpec.ofChange stepStartsSpec)) stepStartsCard

/-- THE TIED CARD OF 'cotterlaw04.StepFinishes'. -/
def stepFinishesCard : Claim7 := { stood := { row := stepFinishesRow, standIns := [], harness := (true, "f7e6e2fb3f1b90b2c3392208651a3eb44ded1909a24bd32478b10c30c6471d36"), looks := false }, kinds := [], alts := [], laidByText := true, laidKinds := [.data], laidTests := true, laidLooks := .later }
def StepFinishesCardSaid : Prop := Claim7.holds Tryd.pinned (.plain (OpenSpec.ofChange stepFinishesSpec)) stepFinishesCard

/-- THE TIED CARD OF 'cotterlaw04.StepTurns'. -/
def stepTurnsCard : Claim7 := { stood := { row := stepTurnsRow, standIns := [], harness := (true, "f7e6e2fb3f1b90b2c3392208651a3eb44ded1909a24bd32478b10c30c6471d36"), looks := false }, kinds := [], alts := [], laidByText := true, laidKinds := [.data], laidTests := true, laidLooks := .later }
def StepTurnsCardSaid : Prop := Claim7.holds Tryd.pinned (.plain (OpenSpec.ofChange stepTurnsSpec)) stepTurnsCard

/-- THE TIED CARD OF 'cotterlaw04.StepShifted'. -/
def stepShiftedCard : Claim7 := { stood := { row := stepShiftedRow, standIns := [], harness := (true, "f7e6e2fb3f1b90b2c3392208651a3eb44ded1909a24bd32478b10c30c6471d36"), looks := false }, kinds := [], alts := [], laidByText := true, laidKinds := [.data], laidTests := true, laidLooks := .later }
def StepShiftedCardSaid : Prop := Claim7.holds Tryd.pinned (.plain (OpenSpec.ofChange stepShiftedSpec)) stepShiftedCard

/-- THE TIED CARD OF 'cotterlaw04.StepNear'. -/
def stepNearCard : Claim7 := { stood := { row := stepNearRow, standIns := [], harness := (true, "f7e6e2fb3f1b90b2c3392208651a3eb44ded1909a24bd32478b10c30c6471d36"), looks := false }, kinds := [], alts := [], laidByText := true, laidKinds := [.data], laidTests := true, laidLooks := .later }
def StepNearCardSaid : Prop := Claim7.holds Tryd.pinned (.plain (OpenSpec.ofChange stepNearSpec)) stepNearCard

/-- THE TIED CARD OF 'cotterlaw04.StepPlain'. -/
def stepPlainCard : Claim7 := { stood := { row := stepPlainRow, standIns := [], harness := (true, "f7e6e2fb3f1b90b2c3392208651a3eb44ded1909a24bd32478b10c30c6471d36"), looks := false }, kinds := [], alts := [], laidByText := true, laidKinds := [.data], laidTests := true, laidLooks := .later }
def StepPlainCardSaid : Prop := Claim7.holds Tryd.pinned (.plain (OpenSpec.ofChange stepPlainSpec)) stepPlainCard

/-- THE SECOND FORM's CARD OF 'cotterlaw04.StepStarts'. -/
def stepStartsUptoCard : Claim7 := { stood := { row := stepStartsUptoRow, standIns := [], harness := (true, "f7e6e2fb3f1b90b2c3392208651a3eb44ded1909a24bd32478b10c30c6471d36"), looks := false }, kinds := [], alts := [], laidByText := true, laidKinds := [.data], laidTests := true, laidLooks := .later }
def StepStartsUptoCardSaid : Prop := Claim7.holds Tryd.pinned (.plain (OpenSpec.upto stepStartsSpec)) stepStartsUptoCard

/-- THE SECOND FORM's CARD OF 'cotterlaw04.StepFinishes'. -/
def stepFinishesUptoCard : Claim7 := { stood := { row := stepFinishesUptoRow, standIns := [], harness := (true, "f7e6e2fb3f1b90b2c3392208651a3eb44ded1909a24bd32478b10c30c6471d36"), looks := false }, kinds := [], alts := [], laidByText := true, laidKinds := [.data], laidTests := true, laidLooks := .later }
def StepFinishesUptoCardSaid : Prop := Claim7.holds Tryd.pinned (.plain (OpenSpec.upto stepFinishesSpec)) stepFinishesUptoCard

/-- THE SECOND FORM's CARD OF 'cotterlaw04.StepTurns'. -/
def stepTurnsUptoCard : Claim7 := { stood := { row := stepTurnsUptoRow, standIns := [], harness := (true, "f7e6e2fb3f1b90b2c3392208651a3eb44ded1909a24bd32478b10c30c6471d36"), looks := false }, kinds := [], alts := [], laidByText := true, laidKinds := [.data], laidTests := true, laidLooks := .later }
def StepTurnsUptoCardSaid : Prop := Claim7.holds Tryd.pinned (.plain (OpenSpec.upto stepTurnsSpec)) stepTurnsUptoCard

/-- THE SECOND FORM's CARD OF 'cotterlaw04.StepShifted'. -/
def stepShiftedUptoCard : Claim7 := { stood := { row := stepShiftedUptoRow, standIns := [], harness := (true, "f7e6e2fb3f1b90b2c3392208651a3eb44ded1909a24bd32478b10c30c6471d36"), looks := false }, kinds := [], alts := [], laidByText := true, laidKinds := [.data], laidTests := true, laidLooks := .later }
def StepShiftedUptoCardSaid : Prop := Claim7.holds Tryd.pinned (.plain (OpenSpec.upto stepShiftedSpec)) stepShiftedUptoCard

/-- THE SECOND FORM's CARD OF 'cotterlaw04.StepNear'. -/
def stepNearUptoCard : Claim7 := { stood := { row := stepNearUptoRow, standIns := [], harness := (true, "f7e6e2fb3f1b90b2c3392208651a3eb44ded1909a24bd32478b10c30c6471d36"), looks := false }, kinds := [], alts := [], laidByText := true, laidKinds := [.data], laidTests := true, laidLooks := .later }
def StepNearUptoCardSaid : Prop := Claim7.holds Tryd.pinned (.plain (OpenSpec.upto stepNearSpec)) stepNearUptoCard

/-- THE SECOND FORM's CARD OF 'cotterlaw04.StepPlain'. -/
def stepPlainUptoCard : Claim7 := { stood := { row := stepPlainUptoRow, standIns := [], harness := (true, "f7e6e2fb3f1b90b2c3392208651a3eb44ded1909a24bd32478b10c30c6471d36"), looks := false }, kinds := [], alts := [], laidByText := true, laidKinds := [.data], laidTests := true, laidLooks := .later }
def StepPlainUptoCardSaid : Prop := Claim7.holds Tryd.pinned (.plain (OpenSpec.upto stepPlainSpec)) stepPlainUptoCard
end Rows
end Go.Proofs.YtjlfjkpbooholaaDoor
