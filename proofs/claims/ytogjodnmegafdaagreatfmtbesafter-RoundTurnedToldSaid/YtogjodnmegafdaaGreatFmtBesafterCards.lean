/-
  DERIVED. GIVEN WITH THE SEED: THE CARDS: each row of YtogjodnmegafdaaGreatFmtBesafterRows.lean that lists a variable, with what it lists TIED to the program's text (the seventh form; the later family's looks); each row that meets fmt, with fmt's text TOLD by the authors' own Lean function (tested against real Go, not proved from fmt's source: count such statements apart). THE CARD IS WHAT COUNTS. Prove the row's statement (the work); the ties are given (YtogjodnmegafdaaGreatFmtBesafterTie.lean); close each card by the builder's one call (the guide's Derived/Test/ToyasCard.lean, 'card_holds'). Laid BY PROGRAM, IN A SANDBOX (cutbox-door.mjs). By AI agents, Wed Nov 11 2026. No macro, syntax, notation, axiom, sorry.
-/
import Derived.Test.YtogjodnmegafdaaGreatFmtBesafterRows
import GoSem.ClaimSeven
namespace Go.Proofs.YtogjodnmegafdaaGreatFmtBesafter
namespace Rows

/-- THE TOLD AND TIED CARD OF 'ambitlaw2.RoundTurned'. -/
def roundTurnedCard : Claim7 := { stood := { row := roundTurnedRow, standIns := [], harness := (true, "5ad7507c98fea454b4d9f89e2cd91cde5940a08a0da72c583b26dff08a750966"), looks := true }, told := true, laidByText := true, laidKinds := [.data, .data, .data, .data, .data, .data, .data, .data, .data, .pinned], laidTests := true, laidLooks := .later, goes := false }
def RoundTurnedToldSaid : Prop := Claim7.holds Tryz.pinned (.plain (OpenSpec.ofChange roundTurnedSpec)) roundTurnedCard
/-- ITS FALSE NEIGHBOUR. Refute it at one input. -/
def RoundTurnedToldWrongFalsely : Prop := Claim7.holds Tryz.pinned (.plain (OpenSpec.ofChange roundTurnedWrong)) roundTurnedCard
end Rows
end Go.Proofs.YtogjodnmegafdaaGreatFmtBesafter
