/-
  DERIVED. GIVEN WITH THE SEED: THE CARDS: each row of YtikdhkmcdmnadaaGreatFmtBesafterRows.lean that lists a variable, with what it lists TIED to the program's text (the seventh form; the later family's looks); each row that meets fmt, with fmt's text TOLD by the authors' own Lean function (tested against real Go, not proved from fmt's source: count such statements apart). THE CARD IS WHAT COUNTS. Prove the row's statement (the work); the ties are given (YtikdhkmcdmnadaaGreatFmtBesafterTie.lean); close each card by the builder's one call (the guide's Derived/Test/ToyasCard.lean, 'card_holds'). Laid BY PROGRAM, IN A SANDBOX (cutbox-door.mjs). By AI agents, Wed Nov 11 2026. No macro, syntax, notation, axiom, sorry.
-/
import Derived.Test.YtikdhkmcdmnadaaGreatFmtBesafterRows
import GoSem.ClaimSeven
namespace Go.Proofs.YtikdhkmcdmnadaaGreatFmtBesafter
namespace Rows

/-- THE TOLD AND TIED CARD OF 'ambitlaw2.RoundHolds'. -/
def roundHoldsCard : Claim7 := { stood := { row := roundHoldsRow, standIns := [], harness := (true, "ddea5ff516fd6f95ab07839c64b7eba3640b097a5f5b1584241c5db5cdb9fc1a"), looks := true }, told := true, laidByText := true, laidKinds := [.data, .data, .data, .data, .data, .data, .data, .data, .data, .pinned], laidTests := true, laidLooks := .later, goes := false }
def RoundHoldsToldSaid : Prop := Claim7.holds Tryz.pinned (.plain (OpenSpec.ofChange roundHoldsSpec)) roundHoldsCard
/-- ITS FALSE NEIGHBOUR. Refute it at one input. -/
def RoundHoldsToldWrongFalsely : Prop := Claim7.holds Tryz.pinned (.plain (OpenSpec.ofChange roundHoldsWrong)) roundHoldsCard
end Rows
end Go.Proofs.YtikdhkmcdmnadaaGreatFmtBesafter
