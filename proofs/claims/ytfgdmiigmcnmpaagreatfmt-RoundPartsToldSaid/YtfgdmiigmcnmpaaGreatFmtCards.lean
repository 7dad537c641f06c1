/-
  DERIVED. GIVEN WITH THE SEED: THE CARDS: each row of YtfgdmiigmcnmpaaGreatFmtRows.lean that lists a variable, with what it lists TIED to the program's text (the seventh form; the later family's looks); each row that meets fmt, with fmt's text TOLD by the authors' own Lean function (tested against real Go, not proved from fmt's source: count such statements apart). THE CARD IS WHAT COUNTS. Prove the row's statement (the work); the ties are given (YtfgdmiigmcnmpaaGreatFmtTie.lean); close each card by the builder's one call (the guide's Derived/Test/ToyasCard.lean, 'card_holds'). Laid BY PROGRAM, IN A SANDBOX (cutbox-door.mjs). By AI agents, Wed Nov 11 2026. No macro, syntax, notation, axiom, sorry.
-/
import Derived.Test.YtfgdmiigmcnmpaaGreatFmtRows
import GoSem.ClaimSeven
namespace Go.Proofs.YtfgdmiigmcnmpaaGreatFmt
namespace Rows

/-- THE TOLD AND TIED CARD OF 'ambitlaw2.RoundShares'. -/
def roundSharesCard : Claim7 := { stood := { row := roundSharesRow, standIns := [], harness := (true, "27ba27145e488dbcee08f281f7c39957e27e97d2dbfdba8603bab06bdb6106e5"), looks := true }, told := true, laidByText := true, laidKinds := [.data, .data, .data, .data, .data, .data, .data, .data, .data, .pinned], laidTests := true, laidLooks := .later, goes := false }
def RoundSharesToldSaid : Prop := Claim7.holds Tryz.pinned (.plain (OpenSpec.ofChange roundSharesSpec)) roundSharesCard
/-- ITS FALSE NEIGHBOUR. Refute it at one input. -/
def RoundSharesToldWrongFalsely : Prop := Claim7.holds Tryz.pinned (.plain (OpenSpec.ofChange roundSharesWrong)) roundSharesCard

/-- THE TOLD AND TIED CARD OF 'ambitlaw2.RoundPlays'. -/
def roundPlaysCard : Claim7 := { stood := { row := roundPlaysRow, standIns := [], harness := (true, "27ba27145e488dbcee08f281f7c39957e27e97d2dbfdba8603bab06bdb6106e5"), looks := true }, told := true, laidByText := true, laidKinds := [.data, .data, .data, .data, .data, .data, .data, .data, .data, .pinned], laidTests := true, laidLooks := .later, goes := false }
def RoundPlaysToldSaid : Prop := Claim7.holds Tryz.pinned (.plain (OpenSpec.ofChange roundPlaysSpec)) roundPlaysCard
/-- ITS FALSE NEIGHBOUR. Refute it at one input. -/
def RoundPlaysToldWrongFalsely : Prop := Claim7.holds Tryz.pinned (.plain (OpenSpec.ofChange roundPlaysWrong)) roundPlaysCard

/-- THE TOLD AND TIED CARD OF 'ambitlaw2.RoundParts'. -/
def roundPartsCard : Claim7 := { stood := { row := roundPartsRow, standIns := [], harness := (true, "27ba27145e488dbcee08f281f7c39957e27e97d2dbfdba8603bab06bdb6106e5"), looks := true }, told := true, laidByText := true, laidKinds := [.data, .data, .data, .data, .data, .data, .data, .data, .data, .pinned], laidTests := true, laidLooks := .later, goes := false }
def RoundPartsToldSaid : Prop := Claim7.holds Tryz.pinned (.plain (OpenSpec.ofChange roundPartsSpec)) roundPartsCard
/-- ITS FALSE NEIGHBOUR. Refute it at one input. -/
def RoundPartsToldWrongFalsely : Prop := Claim7.holds Tryz.pinned (.plain (OpenSpec.ofChange roundPartsWrong)) roundPartsCard

/-- THE TOLD AND TIED CARD OF 'ambitlaw2.RoundSums'. -/
def roundSumsCard : Claim7 := { stood := { row := roundSumsRow, standIns := [], harness := (true, "27ba27145e488dbcee08f281f7c39957e27e97d2dbfdba8603bab06bdb6106e5"), looks := true }, told := true, laidByText := true, laidKinds := [.data, .data, .data, .data, .data, .data, .data, .data, .data, .pinned], laidTests := true, laidLooks := .later, goes := false }
def RoundSumsToldSaid : Prop := Claim7.holds Tryz.pinned (.plain (OpenSpec.ofChange roundSumsSpec)) roundSumsCard
/-- ITS FALSE NEIGHBOUR. Refute it at one input. -/
def RoundSumsToldWrongFalsely : Prop := Claim7.holds Tryz.pinned (.plain (OpenSpec.ofChange roundSumsWrong)) roundSumsCard

/-- THE TOLD AND TIED CARD OF 'ambitlaw2.RoundProducts'. -/
def roundProductsCard : Claim7 := { stood := { row := roundProductsRow, standIns := [], harness := (true, "27ba27145e488dbcee08f281f7c39957e27e97d2dbfdba8603bab06bdb6106e5"), looks := true }, told := true, laidByText := true, laidKinds := [.data, .data, .data, .data, .data, .data, .data, .data, .data, .pinned], laidTests := true, laidLooks := .later, goes := false }
def RoundProductsToldSaid : Prop := Claim7.holds Tryz.pinned (.plain (OpenSpec.ofChange roundProductsSpec)) roundProductsCard
/-- ITS FALSE NEIGHBOUR. Refute it at one input. -/
def RoundProductsToldWrongFalsely : Prop := Claim7.holds Tryz.pinned (.plain (OpenSpec.ofChange roundProductsWrong)) roundProductsCard
end Rows
end Go.Proofs.YtfgdmiigmcnmpaaGreatFmt
