/-
  DERIVED. GIVEN WITH THE SEED: THE CARDS: each row of YtogjodnmegafdaaGreatFmtRows.lean that lists a variable, with what it lists TIED to the program's text (the seventh form; the later family's looks); each row that meets fmt, with fmt's text TOLD by the authors' own Lean function (tested against real Go, not proved from fmt's source: count such statements apart). THE CARD IS WHAT COUNTS. Prove the row's statement (the work); the ties are given (YtogjodnmegafdaaGreatFmtTie.lean); close each card by the builder's one call (the guide's Derived/Test/ToyasCard.lean, 'card_holds'). Laid BY PROGRAM, IN A SANDBOX (cutbox-door.mjs). By AI agents, Wed Nov 11 2026. No macro, syntax, notation, axiom, sorry.
-/
import Derived.Test.YtogjodnmegafdaaGreatFmtRows
import GoSem.ClaimSeven
namespace Go.Proofs.YtogjodnmegafdaaGreatFmt
namespace Rows

/-- THE TOLD AND TIED CARD OF 'ambitlaw2.RoundShares'. -/
def roundSharesCard : Claim7 := { stood := { row := roundSharesRow, standIns := [], harness := (true, "b374751dd3a4be8d511002091822ccbf768aa52671401121dba42ba574718144"), looks := true }, told := true, laidByText := true, laidKinds := [.data, .data, .data, .data, .data, .data, .data, .data, .data, .pinned], laidTests := true, laidLooks := .later, goes := false }
def RoundSharesToldSaid : Prop := Claim7.holds Tryz.pinned (.plain (OpenSpec.ofChange roundSharesSpec)) roundSharesCard
/-- ITS FALSE NEIGHBOUR. Refute it at one input. -/
def RoundSharesToldWrongFalsely : Prop := Claim7.holds Tryz.pinned (.plain (OpenSpec.ofChange roundSharesWrong)) roundSharesCard

/-- THE TOLD AND TIED CARD OF 'ambitlaw2.RoundHolds'. -/
def roundHoldsCard : Claim7 := { stood := { row := roundHoldsRow, standIns := [], harness := (true, "b374751dd3a4be8d511002091822ccbf768aa52671401121dba42ba574718144"), looks := true }, told := true, laidByText := true, laidKinds := [.data, .data, .data, .data, .data, .data, .data, .data, .data, .pinned], laidTests := true, laidLooks := .later, goes := false }
def RoundHoldsToldSaid : Prop := Claim7.holds Tryz.pinned (.plain (OpenSpec.ofChange roundHoldsSpec)) roundHoldsCard
/-- ITS FALSE NEIGHBOUR. Refute it at one input. -/
def RoundHoldsToldWrongFalsely : Prop := Claim7.holds Tryz.pinned (.plain (OpenSpec.ofChange roundHoldsWrong)) roundHoldsCard

/-- THE TOLD AND TIED CARD OF 'ambitlaw2.RoundOrders'. -/
def roundOrdersCard : Claim7 := { stood := { row := roundOrdersRow, standIns := [], harness := (true, "b374751dd3a4be8d511002091822ccbf768aa52671401121dba42ba574718144"), looks := true }, told := true, laidByText := true, laidKinds := [.data, .data, .data, .data, .data, .data, .data, .data, .data, .pinned], laidTests := true, laidLooks := .later, goes := false }
def RoundOrdersToldSaid : Prop := Claim7.holds Tryz.pinned (.plain (OpenSpec.ofChange roundOrdersSpec)) roundOrdersCard
/-- ITS FALSE NEIGHBOUR. Refute it at one input. -/
def RoundOrdersToldWrongFalsely : Prop := Claim7.holds Tryz.pinned (.plain (OpenSpec.ofChange roundOrdersWrong)) roundOrdersCard

/-- THE TOLD AND TIED CARD OF 'ambitlaw2.RoundBack'. -/
def roundBackCard : Claim7 := { stood := { row := roundBackRow, standIns := [], harness := (true, "b374751dd3a4be8d511002091822ccbf768aa52671401121dba42ba574718144"), looks := true }, told := true, laidByText := true, laidKinds := [.data, .data, .data, .data, .data, .data, .data, .data, .data, .pinned], laidTests := true, laidLooks := .later, goes := false }
def RoundBackToldSaid : Prop := Claim7.holds Tryz.pinned (.plain (OpenSpec.ofChange roundBackSpec)) roundBackCard
/-- ITS FALSE NEIGHBOUR. Refute it at one input. -/
def RoundBackToldWrongFalsely : Prop := Claim7.holds Tryz.pinned (.plain (OpenSpec.ofChange roundBackWrong)) roundBackCard

/-- THE TOLD AND TIED CARD OF 'ambitlaw2.RoundNext'. -/
def roundNextCard : Claim7 := { stood := { row := roundNextRow, standIns := [], harness := (true, "b374751dd3a4be8d511002091822ccbf768aa52671401121dba42ba574718144"), looks := true }, told := true, laidByText := true, laidKinds := [.data, .data, .data, .data, .data, .data, .data, .data, .data, .pinned], laidTests := true, laidLooks := .later, goes := false }
def RoundNextToldSaid : Prop := Claim7.holds Tryz.pinned (.plain (OpenSpec.ofChange roundNextSpec)) roundNextCard
/-- ITS FALSE NEIGHBOUR. Refute it at one input. -/
def RoundNextToldWrongFalsely : Prop := Claim7.holds Tryz.pinned (.plain (OpenSpec.ofChange roundNextWrong)) roundNextCard

/-- THE TOLD AND TIED CARD OF 'ambitlaw2.RoundQuotients'. -/
def roundQuotientsCard : Claim7 := { stood := { row := roundQuotientsRow, standIns := [], harness := (true, "b374751dd3a4be8d511002091822ccbf768aa52671401121dba42ba574718144"), looks := true }, told := true, laidByText := true, laidKinds := [.data, .data, .data, .data, .data, .data, .data, .data, .data, .pinned], laidTests := true, laidLooks := .later, goes := false }
def RoundQuotientsToldSaid : Prop := Claim7.holds Tryz.pinned (.plain (OpenSpec.ofChange roundQuotientsSpec)) roundQuotientsCard
/-- ITS FALSE NEIGHBOUR. Refute it at one input. -/
def RoundQuotientsToldWrongFalsely : Prop := Claim7.holds Tryz.pinned (.plain (OpenSpec.ofChange roundQuotientsWrong)) roundQuotientsCard

/-- THE TOLD AND TIED CARD OF 'ambitlaw2.RoundScales'. -/
def roundScalesCard : Claim7 := { stood := { row := roundScalesRow, standIns := [], harness := (true, "b374751dd3a4be8d511002091822ccbf768aa52671401121dba42ba574718144"), looks := true }, told := true, laidByText := true, laidKinds := [.data, .data, .data, .data, .data, .data, .data, .data, .data, .pinned], laidTests := true, laidLooks := .later, goes := false }
def RoundScalesToldSaid : Prop := Claim7.holds Tryz.pinned (.plain (OpenSpec.ofChange roundScalesSpec)) roundScalesCard
/-- ITS FALSE NEIGHBOUR. Refute it at one input. -/
def RoundScalesToldWrongFalsely : Prop := Claim7.holds Tryz.pinned (.plain (OpenSpec.ofChange roundScalesWrong)) roundScalesCard
end Rows
end Go.Proofs.YtogjodnmegafdaaGreatFmt
