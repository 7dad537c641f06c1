/-
  NARROWER THAN 'FOR EVERY INPUT', by the rows' own cells (each row's printed sentence says how): MarginClaims: calm · MarginTells: calm.
  DERIVED. THE GIVEN ROWS OF THIS SEAT. 5 by the template 'for every input the law returns true; each argument reads behind the call as it read before'; 0 by the template 'total and deterministic' (their statements: YtcfejobdgiiihaaGreatDoorTotals.lean).
  GIVEN WITH THE SEED: the statements are not yours to turn. If you find one false, say at which input.
  Laid BY PROGRAM, IN A SANDBOX (cutbox-rows.mjs): the forced cells as the released guide's own fill.sh prints them over the translation 0bacf608f73145ed… (all of the seat's roots in one cut). By AI agents, Wed Nov 11 2026. No macro, syntax, notation, axiom, sorry.
-/
import Derived.Test.YtcfejobdgiiihaaGreatDoorChecked
import GoSem.Claim
import GoSem.ClaimJoined
import GoSem.ClaimMapViews
import Derived.JoinedTies
import Derived.KernelRfl
namespace Go.Proofs.YtcfejobdgiiihaaGreatDoor
/- THE CELL 'sum', in the pinned program and in every row, IS THE sha256 OF THE DUMP (.gsa) THAT YtcfejobdgiiihaaGreatDoorProg.lean LOADS. Nothing in Lean hashes anything: it is a label: what it is worth is what the hold of that sum in a sandbox is worth. -/
noncomputable def Tryz.pinned : Pinned := { name := "ytcfejobdgiiihaagreatdoor", sum := "0bacf608f73145ed6d477fee503e2d5f48207b2e4cacf8f3e816a7019bed2139", checked := Tryz.checked }
namespace Rows
def none {H : Type} : Left H := { results := [], args := [] }

/-- 'ambitlaw17.MarginClaims': WHATEVER THE INPUT: true; the input reads as it did. -/
def marginClaimsSpec : ChangeSpec := { name := "marginClaims", fn := fun _ => fun
  | [d1, d2] => { results := [.lit (.bool true)], args := [d1, d2] }
  | _ => none }
def marginClaimsRow : OpenClaim := { program := "ytcfejobdgiiihaagreatdoor", sum := "0bacf608f73145ed6d477fee503e2d5f48207b2e4cacf8f3e816a7019bed2139", func := "ambit/ambitlaw17.MarginClaims", spec := "marginClaims", inPlace := ["math.Float64bits", "math.Float64frombits", "math/bits.Sub64", "math/bits.Add64", "math/big.subVV", "math/big.rshVU", "math/big.addVV", "math/big.lshVU"], recurses := true, named := ["math/big.natOne"], apart := false, calm := true, outside := [.timePasses] }
def MarginClaimsSaid : Prop := marginClaimsRow.holds Tryz.pinned (OpenSpec.ofChange marginClaimsSpec)

/-- ITS FALSE NEIGHBOUR: 'it returns false'. Refute it at one input. -/
def marginClaimsWrong : ChangeSpec := { name := "marginClaims", fn := fun _ => fun
  | [d1, d2] => { results := [.lit (.bool false)], args := [d1, d2] }
  | _ => none }
def MarginClaimsWrongFalsely : Prop := marginClaimsRow.holds Tryz.pinned (OpenSpec.ofChange marginClaimsWrong)

/-- 'ambitlaw17.MarginTells': WHATEVER THE INPUT: true; the input reads as it did. -/
def marginTellsSpec : ChangeSpec := { name := "marginTells", fn := fun _ => fun
  | [d1, d2, d3] => { results := [.lit (.bool true)], args := [d1, d2, d3] }
  | _ => none }
def marginTellsRow : OpenClaim := { program := "ytcfejobdgiiihaagreatdoor", sum := "0bacf608f73145ed6d477fee503e2d5f48207b2e4cacf8f3e816a7019bed2139", func := "ambit/ambitlaw17.MarginTells", spec := "marginTells", inPlace := ["math.Float64bits", "math.Float64frombits", "math/bits.Sub64", "math/bits.Add64", "math/big.subVV", "math/big.rshVU", "math/big.addVV", "math/big.lshVU"], recurses := true, named := ["math/big.natOne"], apart := false, calm := true, outside := [.timePasses] }
def MarginTellsSaid : Prop := marginTellsRow.holds Tryz.pinned (OpenSpec.ofChange marginTellsSpec)

/-- ITS FALSE NEIGHBOUR: 'it returns false'. Refute it at one input. -/
def marginTellsWrong : ChangeSpec := { name := "marginTells", fn := fun _ => fun
  | [d1, d2, d3] => { results := [.lit (.bool false)], args := [d1, d2, d3] }
  | _ => none }
def MarginTellsWrongFalsely : Prop := marginTellsRow.holds Tryz.pinned (OpenSpec.ofChange marginTellsWrong)

/-- 'ambitlaw17.MarginHolds': WHATEVER THE INPUT: true; the input reads as it did. -/
def marginHoldsSpec : ChangeSpec := { name := "marginHolds", fn := fun _ => fun
  | [d1, d2, d3, d4, d5] => { results := [.lit (.bool true)], args := [d1, d2, d3, d4, d5] }
  | _ => none }
def marginHoldsRow : OpenClaim := { program := "ytcfejobdgiiihaagreatdoor", sum := "0bacf608f73145ed6d477fee503e2d5f48207b2e4cacf8f3e816a7019bed2139", func := "ambit/ambitlaw17.MarginHolds", spec := "marginHolds", inPlace := ["math.Float64bits", "math.Float64frombits", "math/bits.Sub64", "math/bits.Add64", "math/big.subVV", "math/big.rshVU", "math/big.addVV", "math/big.lshVU"], recurses := true, named := ["math/big.natOne"], apart := false }
def MarginHoldsSaid : Prop := marginHoldsRow.holds Tryz.pinned (OpenSpec.ofChange marginHoldsSpec)

/-- ITS FALSE NEIGHBOUR: 'it returns false'. Refute it at one input. -/
def marginHoldsWrong : ChangeSpec := { name := "marginHolds", fn := fun _ => fun
  | [d1, d2, d3, d4, d5] => { results := [.lit (.bool false)], args := [d1, d2, d3, d4, d5] }
  | _ => none }
def MarginHoldsWrongFalsely : Prop := marginHoldsRow.holds Tryz.pinned (OpenSpec.ofChange marginHoldsWrong)

/-- 'ambitlaw17.MarginLeast': WHATEVER THE INPUT: true; the input reads as it did. -/
def marginLeastSpec : ChangeSpec := { name := "marginLeast", fn := fun _ => fun
  | [d1, d2] => { results := [.lit (.bool true)], args := [d1, d2] }
  | _ => none }
def marginLeastRow : OpenClaim := { program := "ytcfejobdgiiihaagreatdoor", sum := "0bacf608f73145ed6d477fee503e2d5f48207b2e4cacf8f3e816a7019bed2139", func := "ambit/ambitlaw17.MarginLeast", spec := "marginLeast", inPlace := ["math.Float64bits", "math.Float64frombits", "math/bits.Sub64", "math/bits.Add64", "math/big.subVV", "math/big.rshVU", "math/big.addVV", "math/big.lshVU"], recurses := true, named := ["math/big.natOne"], apart := false }
def MarginLeastSaid : Prop := marginLeastRow.holds Tryz.pinned (OpenSpec.ofChange marginLeastSpec)

/-- ITS FALSE NEIGHBOUR: 'it returns false'. Refute it at one input. -/
def marginLeastWrong : ChangeSpec := { name := "marginLeast", fn := fun _ => fun
  | [d1, d2] => { results := [.lit (.bool false)], args := [d1, d2] }
  | _ => none }
def MarginLeastWrongFalsely : Prop := marginLeastRow.holds Tryz.pinned (OpenSpec.ofChange marginLeastWrong)

/-- 'ambitlaw17.MarginLent': WHATEVER THE INPUT: true; the input reads as it did. -/
def marginLentSpec : ChangeSpec := { name := "marginLent", fn := fun _ => fun
  | [d1, d2, d3, d4] => { results := [.lit (.bool true)], args := [d1, d2, d3, d4] }
  | _ => none }
def marginLentRow : OpenClaim := { program := "ytcfejobdgiiihaagreatdoor", sum := "0bacf608f73145ed6d477fee503e2d5f48207b2e4cacf8f3e816a7019bed2139", func := "ambit/ambitlaw17.MarginLent", spec := "marginLent", inPlace := ["math.Float64bits", "math.Float64frombits", "math/bits.Sub64", "math/bits.Add64", "math/big.subVV", "math/big.rshVU", "math/big.addVV", "math/big.lshVU"], recurses := true, named := ["math/big.natOne"], apart := false }
def MarginLentSaid : Prop := marginLentRow.holds Tryz.pinned (OpenSpec.ofChange marginLentSpec)

/-- ITS FALSE NEIGHBOUR: 'it returns false'. Refute it at one input. -/
def marginLentWrong : ChangeSpec := { name := "marginLent", fn := fun _ => fun
  | [d1, d2, d3, d4] => { results := [.lit (.bool false)], args := [d1, d2, d3, d4] }
  | _ => none }
def MarginLentWrongFalsely : Prop := marginLentRow.holds Tryz.pinned (OpenSpec.ofChange marginLentWrong)

/- THE SECOND FORM. 'bulk': how many values and letters a reading holds, each counted each time it is reached (what is shared counts as often as it is met; a slice's spare places count too). A statement '..UptoSaid' is the law's where the arguments, and the package variables that the reading takes, are together of bulk at most 1048576: NARROWER than '..Said'. Prove '..Said' where nothing that the law and all that it calls make is longer than what came in: it says more and counts as full. Else prove '..UptoSaid'. A law counts once. -/
mutual
def uptoBulk {H : Type} : DataW H → Nat
  | .lit (.string bytes) => bytes.length + 1
  | .lit _ => 1
  | .nil => 1
  | .ptr d => uptoBulk d + 1
  | .slice elems spare => uptoBulkAll elems + uptoBulkAll spare + 1
  | .agg parts => uptoBulkAll parts + 1
  | .iface _ d => uptoBulk d + 1
  | .map entries => uptoBulkEntries entries + 1
  | .held _ => 1
def uptoBulkAll {H : Type} : List (DataW H) → Nat
  | [] => 0
  | d :: r => uptoBulk d + uptoBulkAll r
def uptoBulkEntries {H : Type} : List (Lit × DataW H) → Nat
  | [] => 0
  | x :: r => uptoBulkEntry x + uptoBulkEntries r
def uptoBulkEntry {H : Type} : Lit × DataW H → Nat
  | (.string bytes, d) => bytes.length + uptoBulk d + 1
  | (_, d) => uptoBulk d + 1
 end
def uptoSmall : (H : Type) → List (DataW H) → Bool := fun _ ds => decide (uptoBulkAll ds ≤ 1048576)
def OpenSpec.upto (s : _root_.Go.ChangeSpec) : _root_.Go.OpenSpec := { _root_.Go.OpenSpec.ofChange s with cond := some uptoSmall }

/-- 'ambitlaw17.MarginHolds', WHERE WHAT IT READS IS OF BULK AT MOST 1048576: true; the input reads as it did. -/
def marginHoldsUptoRow : OpenClaim := { program := "ytcfejobdgiiihaagreatdoor", sum := "0bacf608f73145ed6d477fee503e2d5f48207b2e4cacf8f3e816a7019bed2139", func := "ambit/ambitlaw17.MarginHolds", spec := "marginHolds", inPlace := ["math.Float64bits", "math.Float64frombits", "math/bits.Sub64", "math/bits.Add64", "math/big.subVV", "math/big.rshVU", "math/big.addVV", "math/big.lshVU"], recurses := true, named := ["math/big.natOne"], apart := false, narrowed := true }
def MarginHoldsUptoSaid : Prop := marginHoldsUptoRow.holds Tryz.pinned (OpenSpec.upto marginHoldsSpec)

/-- 'ambitlaw17.MarginLeast', WHERE WHAT IT READS IS OF BULK AT MOST 1048576: true; the input reads as it did. -/
def marginLeastUptoRow : OpenClaim := { program := "ytcfejobdgiiihaagreatdoor", sum := "0bacf608f73145ed6d477fee503e2d5f48207b2e4cacf8f3e816a7019bed2139", func := "ambit/ambitlaw17.MarginLeast", spec := "marginLeast", inPlace := ["math.Float64bits", "math.Float64frombits", "math/bits.Sub64", "math/bits.Add64", "math/big.subVV", "math/big.rshVU", "math/big.addVV", "math/big.lshVU"], recurses := true, named := ["math/big.natOne"], apart := false, narrowed := true }
def MarginLeastUptoSaid : Prop := marginLeastUptoRow.holds Tryz.pinned (OpenSpec.upto marginLeastSpec)

/-- 'ambitlaw17.MarginLent', WHERE WHAT IT READS IS OF BULK AT MOST 1048576: true; the input reads as it did. -/
def marginLentUptoRow : OpenClaim := { program := "ytcfejobdgiiihaagreatdoor", sum := "0bacf608f73145ed6d477fee503e2d5f48207b2e4cacf8f3e816a7019bed2139", func := "ambit/ambitlaw17.MarginLent", spec := "marginLent", inPlace := ["math.Float64bits", "math.Float64frombits", "math/bits.Sub64", "math/bits.Add64", "math/big.subVV", "math/big.rshVU", "math/big.addVV", "math/big.lshVU"], recurses := true, named := ["math/big.natOne"], apart := false, narrowed := true }
def MarginLentUptoSaid : Prop := marginLentUptoRow.holds Tryz.pinned (OpenSpec.upto marginLentSpec)

end Rows
end Go.Proofs.YtcfejobdgiiihaaGreatDoor
