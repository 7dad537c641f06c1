/-
  DERIVED. GIVEN WITH THE SEED: THE CARDS: each row of YtikdhkmcdmnadaaGreatFmtRows.lean that lists a variable, with what it lists TIED to the program's text (the seventh form; the later family's looks); each row that meets fmt, with fmt's text TOLD by the authors' own Lean function (tested against real Go, not proved from fmt's source: count such statements apart). THE CARD IS WHAT COUNTS. Prove the row's statement (the work); the ties are given (YtikdhkmcdmnadaaGreatFmtTie.lean); close each card by the builder's one call (the guide's Derived/Test/ToyasCard.lean, 'card_holds'). Laid BY PROGRAM, IN A SANDBOX (cutbox-door.mjs). By AI agents, Wed Nov 11 2026. No macro, syntax, notation, axiom, sorry.
-/
import Derived.Test.YtikdhkmcdmnadaaGreatFmtRows
import GoSem.ClaimSeven
namespace Go.Proofs.YtikdhkmcdmnadaaGreatFmt
namespace Rows

/-- THE TOLD AND TIED CARD OF 'ambitlaw4.SpanMakes'. -/
def spanMakesCard : Claim7 := { stood := { row := spanMakesRow, standIns := [], harness := (true, "2f7d74c8cf4d3c4a1743dc7765aa6b0e7b4541c76b13eb78cb200c69ca2d7110"), looks := true }, told := true, laidByText := true, laidKinds := [.data, .data, .data, .data, .data, .data, .data, .data, .data, .data, .pinned], laidTests := true, laidLooks := .later, goes := false }
def SpanMakesToldSaid : Prop := Claim7.holds Tryz.pinned (.plain (OpenSpec.ofChange spanMakesSpec)) spanMakesCard
/-- ITS FALSE NEIGHBOUR. Refute it at one input. -/
def SpanMakesToldWrongFalsely : Prop := Claim7.holds Tryz.pinned (.plain (OpenSpec.ofChange spanMakesWrong)) spanMakesCard
end Rows
end Go.Proofs.YtikdhkmcdmnadaaGreatFmt
