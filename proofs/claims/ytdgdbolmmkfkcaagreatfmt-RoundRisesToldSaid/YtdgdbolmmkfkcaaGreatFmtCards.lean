/-
  DERIVED. GIVEN WITH THE SEED: THE CARDS: each row of YtdgdbolmmkfkcaaGreatFmtRows.lean that lists a variable, with what it lists TIED to the program's text (the seventh form; the later family's looks); each row that meets fmt, with fmt's text TOLD by the authors' own Lean function (tested against real Go, not proved from fmt's source: count such statements apart). THE CARD IS WHAT COUNTS. Prove the row's statement (the work); the ties are given (YtdgdbolmmkfkcaaGreatFmtTie.lean); close each card by the builder's one call (the guide's Derived/Test/ToyasCard.lean, 'card_holds'). Laid BY PROGRAM, IN A SANDBOX (cutbox-door.mjs). By AI agents, Wed Nov 11 2026. No macro, syntax, notation, axiom, sorry.
-/
import Derived.Test.YtdgdbolmmkfkcaaGreatFmtRows
import GoSem.ClaimSeven
namespace Go.Proofs.YtdgdbolmmkfkcaaGreatFmt
namespace Rows

/-- THE TOLD AND TIED CARD OF 'ambitlaw2.RoundBound'. -/
def roundBoundCard : Claim7 := { stood := { row := roundBoundRow, standIns := [], harness := (true, "f0e754ae650a5933c58882b97d29def178d2e7389270b8aabdc6de4ba376cf7c"), looks := true }, told := true, laidByText := true, laidKinds := [.data, .data, .data, .data, .data, .data, .data, .data, .data, .pinned], laidTests := true, laidLooks := .later, goes := false }
def RoundBoundToldSaid : Prop := Claim7.holds Tryz.pinned (.plain (OpenSpec.ofChange roundBoundSpec)) roundBoundCard
/-- ITS FALSE NEIGHBOUR. Refute it at one input. -/
def RoundBoundToldWrongFalsely : Prop := Claim7.holds Tryz.pinned (.plain (OpenSpec.ofChange roundBoundWrong)) roundBoundCard

/-- THE TOLD AND TIED CARD OF 'ambitlaw2.RoundRises'. -/
def roundRisesCard : Claim7 := { stood := { row := roundRisesRow, standIns := [], harness := (true, "f0e754ae650a5933c58882b97d29def178d2e7389270b8aabdc6de4ba376cf7c"), looks := true }, told := true, laidByText := true, laidKinds := [.data, .data, .data, .data, .data, .data, .data, .data, .data, .pinned], laidTests := true, laidLooks := .later, goes := false }
def RoundRisesToldSaid : Prop := Claim7.holds Tryz.pinned (.plain (OpenSpec.ofChange roundRisesSpec)) roundRisesCard
/-- ITS FALSE NEIGHBOUR. Refute it at one input. -/
def RoundRisesToldWrongFalsely : Prop := Claim7.holds Tryz.pinned (.plain (OpenSpec.ofChange roundRisesWrong)) roundRisesCard

/-- THE TOLD AND TIED CARD OF 'ambitlaw2.RoundShares'. -/
def roundSharesCard : Claim7 := { stood := { row := roundSharesRow, standIns := [], harness := (true, "f0e754ae650a5933c58882b97d29def178d2e7389270b8aabdc6de4ba376cf7c"), looks := true }, told := true, laidByText := true, laidKinds := [.data, .data, .data, .data, .data, .data, .data, .data, .data, .pinned], laidTests := true, laidLooks := .later, goes := false }
def RoundSharesToldSaid : Prop := Claim7.holds Tryz.pinned (.plain (OpenSpec.ofChange roundSharesSpec)) roundSharesCard
/-- ITS FALSE NEIGHBOUR. Refute it at one input. -/
def RoundSharesToldWrongFalsely : Prop := Claim7.holds Tryz.pinned (.plain (OpenSpec.ofChange roundSharesWrong)) roundSharesCard

/-- THE TOLD AND TIED CARD OF 'ambitlaw2.RoundNext'. -/
def roundNextCard : Claim7 := { stood := { row := roundNextRow, standIns := [], harness := (true, "f0e754ae650a5933c58882b97d29def178d2e7389270b8aabdc6de4ba376cf7c"), looks := true }, told := true, laidByText := true, laidKinds := [.data, .data, .data, .data, .data, .data, .data, .data, .data, .pinned], laidTests := true, laidLooks := .later, goes := false }
def RoundNextToldSaid : Prop := Claim7.holds Tryz.pinned (.plain (OpenSpec.ofChange roundNextSpec)) roundNextCard
/-- ITS FALSE NEIGHBOUR. Refute it at one input. -/
def RoundNextToldWrongFalsely : Prop := Claim7.holds Tryz.pinned (.plain (OpenSpec.ofChange roundNextWrong)) roundNextCard

/-- THE TOLD AND TIED CARD OF 'ambitlaw2.RoundQuotients'. -/
def roundQuotientsCard : Claim7 := { stood := { row := roundQuotientsRow, standIns := [], harness := (true, "f0e754ae650a5933c58882b97d29def178d2e7389270b8aabdc6de4ba376cf7c"), looks := true }, told := true, laidByText := true, laidKinds := [.data, .data, .data, .data, .data, .data, .data, .data, .data, .pinned], laidTests := true, laidLooks := .later, goes := false }
def RoundQuotientsToldSaid : Prop := Claim7.holds Tryz.pinned (.plain (OpenSpec.ofChange roundQuotientsSpec)) roundQuotientsCard
/-- ITS FALSE NEIGHBOUR. Refute it at one input. -/
def RoundQuotientsToldWrongFalsely : Prop := Claim7.holds Tryz.pinned (.plain (OpenSpec.ofChange roundQuotientsWrong)) roundQuotientsCard

/-- THE TOLD AND TIED CARD OF 'ambitlaw2.RoundProducts'. -/
def roundProductsCard : Claim7 := { stood := { row := roundProductsRow, standIns := [], harness := (true, "f0e754ae650a5933c58882b97d29def178d2e7389270b8aabdc6de4ba376cf7c"), looks := true }, told := true, laidByText := true, laidKinds := [.data, .data, .data, .data, .data, .data, .data, .data, .data, .pinned], laidTests := true, laidLooks := .later, goes := false }
def RoundProductsToldSaid : Prop := Claim7.holds Tryz.pinned (.plain (OpenSpec.ofChange roundProductsSpec)) roundProductsCard
/-- ITS FALSE NEIGHBOUR. Refute it at one input. -/
def RoundProductsToldWrongFalsely : Prop := Claim7.holds Tryz.pinned (.plain (OpenSpec.ofChange roundProductsWrong)) roundProductsCard
end Rows
end Go.Proofs.YtdgdbolmmkfkcaaGreatFmt
