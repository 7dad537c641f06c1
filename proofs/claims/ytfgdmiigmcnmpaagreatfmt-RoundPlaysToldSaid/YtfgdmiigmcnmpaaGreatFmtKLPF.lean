import Derived.Test.YtfgdmiigmcnmpaaGreatFmtCards
import Derived.Test.YtfgdmiigmcnmpaaGreatFmtTie
import Derived.WalkKit
import Derived.ProofKit
import Derived.OpenShut
import Derived.Stop.JoinedTold
import Derived.Stop.JoinedAt
import Derived.SevenToldRow
import Derived.SevenTiedAt
import Derived.Laws.Cover2
set_option linter.unusedVariables false
set_option linter.unusedSimpArgs false
namespace Go.Proofs.YtfgdmiigmcnmpaaGreatFmt
namespace LPR
open Go.ChangeShapes Go.WideShapes Go.ChangeAt Go.RowKit
open Go.Extern.Stop Go.Stop Go.Extern
/- each closed fact by itself: together they fill the kernel's memory -/
theorem wrap : Func.isWrapper Tryz.pinned.checked.prog Tryz.f4 Rows.roundPlaysRow.wrapper Rows.roundPlaysRow.mainSum := by
  unfold Func.isWrapper; first | (rw [if_pos (by decide +kernel)]; kernel_rfl) | (rw [if_neg (by decide +kernel)]; exact ⟨rfl, rfl⟩)
theorem more : Rows.roundPlaysRow.moreEntering Tryz.pinned.checked.prog Tryz.f4 := OpenClaim.moreEntering_of (by kernel_rfl) (by kernel_rfl) (by kernel_rfl) (by kernel_rfl) (by kernel_rfl) (by kernel_rfl) (by kernel_rfl) (by kernel_rfl) (by kernel_rfl) (by kernel_rfl)
theorem inst : Func.isInstance Tryz.pinned.checked.prog Tryz.f4 Rows.roundPlaysRow.origin Rows.roundPlaysRow.targs := of_decide_eq_true (by kernel_rfl)
theorem k_w : Rows.roundPlaysRow.wfByText (OpenSpec.ofChange Rows.roundPlaysSpec) = true := by kernel_rfl
theorem k_mr : mapsRowed Tryz.pinned.checked.prog = true := by kernel_rfl
theorem k_tie : namedTie Tryz.pinned.checked.prog Rows.roundPlaysRow.namedList (OpenSpec.ofChange Rows.roundPlaysSpec).vars = true := by kernel_rfl
theorem k_fn : Tryz.pinned.checked.prog.funcNamed Rows.roundPlaysRow.func = some 4 := by kernel_rfl
theorem k_r : (Tryz.f4.params.toList.all fun t => Tryz.pinned.checked.prog.readableRec t) = true := by kernel_rfl
theorem k_word : Tryz.pinned.checked.prog.envWorded = true := by kernel_rfl
theorem k_in : Rows.roundPlaysRow.inPlace = Tryz.pinned.checked.prog.inPlace 4 := by kernel_rfl
theorem k_op : Rows.roundPlaysRow.unfollowed = Tryz.pinned.checked.prog.unfollowed 4 := by kernel_rfl
theorem k_rc : Rows.roundPlaysRow.recurses = Tryz.pinned.checked.prog.recurses 4 := by kernel_rfl
theorem k_vs : Rows.roundPlaysRow.named = Tryz.pinned.checked.prog.varsNamed 4 := by kernel_rfl
theorem k_mp : Rows.roundPlaysRow.maps = (Tryz.f4.params.toList ++ (OpenSpec.ofChange Rows.roundPlaysSpec).bare.plain.varTypes Tryz.pinned.checked.prog).any (Tryz.pinned.checked.prog.mapsRec ·) := by kernel_rfl
theorem k_if : Rows.roundPlaysRow.ifaces = (Tryz.f4.params.toList ++ (OpenSpec.ofChange Rows.roundPlaysSpec).bare.plain.varTypes Tryz.pinned.checked.prog).any (Tryz.pinned.checked.prog.ifacesRec ·) := by kernel_rfl
theorem k_mo : Rows.roundPlaysRow.mapsOut = Tryz.pinned.checked.prog.mapsAmong Tryz.f4.resultTypes.toList := by kernel_rfl
theorem k_lo : Rows.roundPlaysRow.loops = (Tryz.f4.params.toList ++ (OpenSpec.ofChange Rows.roundPlaysSpec).bare.plain.varTypes Tryz.pinned.checked.prog).any (Tryz.pinned.checked.prog.loopsFrom ·) := by kernel_rfl
theorem k_wk : Rows.roundPlaysRow.wideKeys = (Tryz.f4.params.toList ++ (OpenSpec.ofChange Rows.roundPlaysSpec).bare.plain.varTypes Tryz.pinned.checked.prog ++ Tryz.f4.resultTypes.toList).any (Tryz.pinned.checked.prog.wideKeysFrom ·) := by kernel_rfl
theorem k_vars : ((OpenSpec.ofChange Rows.roundPlaysSpec).vars.all fun n => Tryz.pinned.checked.prog.varReadable n) = true := by kernel_rfl
theorem k_main : Tryz.pinned.checked.prog.mainIs = some ((true, "27ba27145e488dbcee08f281f7c39957e27e97d2dbfdba8603bab06bdb6106e5").1, (true, "27ba27145e488dbcee08f281f7c39957e27e97d2dbfdba8603bab06bdb6106e5").2.toList) := by kernel_rfl
theorem k_looks : true = Tryz.pinned.checked.prog.looks [] := by kernel_rfl
theorem k_fun : (Tryz.f4.params.toList.all fun t => !Tryz.pinned.checked.prog.wantsStandIn t) = true := by kernel_rfl
theorem k_goes : false = Rows.roundPlaysRow.goesBy Tryz.pinned.checked.prog := by kernel_rfl
theorem k_vl : Rows.roundPlaysRow.veiled = (Tryz.f4.params.toList ++ (OpenSpec.ofChange Rows.roundPlaysSpec).bare.plain.varTypes Tryz.pinned.checked.prog ++ Tryz.f4.resultTypes.toList).any (Tryz.pinned.checked.prog.veiledRec ·) ∧ Rows.roundPlaysRow.veiledFits Tryz.pinned.checked.prog Tryz.f4.params.toList (Tryz.f4.params.toList ++ (OpenSpec.ofChange Rows.roundPlaysSpec).bare.plain.varTypes Tryz.pinned.checked.prog ++ Tryz.f4.resultTypes.toList) = true := ⟨by kernel_rfl, by kernel_rfl⟩
end LPR
end Go.Proofs.YtfgdmiigmcnmpaaGreatFmt
