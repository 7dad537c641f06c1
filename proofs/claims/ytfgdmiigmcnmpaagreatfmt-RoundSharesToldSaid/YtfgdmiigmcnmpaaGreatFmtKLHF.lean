import Derived.Test.YtfgdmiigmcnmpaaGreatFmtCards
import Derived.Test.YtfgdmiigmcnmpaaGreatFmtTie
import Derived.WalkKit
import Derived.ProofKit
import Derived.OpenShut
import Derived.Stop.JoinedTold
import Derived.Stop.JoinedAt
import Derived.SevenToldRow
import Derived.SevenTiedAt
import Derived.Laws.Cover2
set_option linter.unusedVariables false
set_option linter.unusedSimpArgs false
namespace Go.Proofs.YtfgdmiigmcnmpaaGreatFmt
namespace LHR
open Go.ChangeShapes Go.WideShapes Go.ChangeAt Go.RowKit
open Go.Extern.Stop Go.Stop Go.Extern
/- each closed fact by itself: together they fill the kernel's memory -/
theorem wrap : Func.isWrapper Tryz.pinned.checked.prog Tryz.f3 Rows.roundSharesRow.wrapper Rows.roundSharesRow.mainSum := by
  unfold Func.isWrapper; first | (rw [if_pos (by decide +kernel)]; kernel_rfl) | (rw [if_neg (by decide +kernel)]; exact ⟨rfl, rfl⟩)
theorem more : Rows.roundSharesRow.moreEntering Tryz.pinned.checked.prog Tryz.f3 := OpenClaim.moreEntering_of (by kernel_rfl) (by kernel_rfl) (by kernel_rfl) (by kernel_rfl) (by kernel_rfl) (by kernel_rfl) (by kernel_rfl) (by kernel_rfl) (by kernel_rfl) (by kernel_rfl)
theorem inst : Func.isInstance Tryz.pinned.checked.prog Tryz.f3 Rows.roundSharesRow.origin Rows.roundSharesRow.targs := of_decide_eq_true (by kernel_rfl)
theorem k_w : Rows.roundSharesRow.wfByText (OpenSpec.ofChange Rows.roundSharesSpec) = true := by kernel_rfl
theorem k_mr : mapsRowed Tryz.pinned.checked.prog = true := by kernel_rfl
theorem k_tie : namedTie Tryz.pinned.checked.prog Rows.roundSharesRow.namedList (OpenSpec.ofChange Rows.roundSharesSpec).vars = true := by kernel_rfl
theorem k_fn : Tryz.pinned.checked.prog.funcNamed Rows.roundSharesRow.func = some 3 := by kernel_rfl
theorem k_r : (Tryz.f3.params.toList.all fun t => Tryz.pinned.checked.prog.readableRec t) = true := by kernel_rfl
theorem k_word : Tryz.pinned.checked.prog.envWorded = true := by kernel_rfl
theorem k_in : Rows.roundSharesRow.inPlace = Tryz.pinned.checked.prog.inPlace 3 := by kernel_rfl
theorem k_op : Rows.roundSharesRow.unfollowed = Tryz.pinned.checked.prog.unfollowed 3 := by kernel_rfl
theorem k_rc : Rows.roundSharesRow.recurses = Tryz.pinned.checked.prog.recurses 3 := by kernel_rfl
theorem k_vs : Rows.roundSharesRow.named = Tryz.pinned.checked.prog.varsNamed 3 := by kernel_rfl
theorem k_mp : Rows.roundSharesRow.maps = (Tryz.f3.params.toList ++ (OpenSpec.ofChange Rows.roundSharesSpec).bare.plain.varTypes Tryz.pinned.checked.prog).any (Tryz.pinned.checked.prog.mapsRec ·) := by kernel_rfl
theorem k_if : Rows.roundSharesRow.ifaces = (Tryz.f3.params.toList ++ (OpenSpec.ofChange Rows.roundSharesSpec).bare.plain.varTypes Tryz.pinned.checked.prog).any (Tryz.pinned.checked.prog.ifacesRec ·) := by kernel_rfl
theorem k_mo : Rows.roundSharesRow.mapsOut = Tryz.pinned.checked.prog.mapsAmong Tryz.f3.resultTypes.toList := by kernel_rfl
theorem k_lo : Rows.roundSharesRow.loops = (Tryz.f3.params.toList ++ (OpenSpec.ofChange Rows.roundSharesSpec).bare.plain.varTypes Tryz.pinned.checked.prog).any (Tryz.pinned.checked.prog.loopsFrom ·) := by kernel_rfl
theorem k_wk : Rows.roundSharesRow.wideKeys = (Tryz.f3.params.toList ++ (OpenSpec.ofChange Rows.roundSharesSpec).bare.plain.varTypes Tryz.pinned.checked.prog ++ Tryz.f3.resultTypes.toList).any (Tryz.pinned.checked.prog.wideKeysFrom ·) := by kernel_rfl
theorem k_vars : ((OpenSpec.ofChange Rows.roundSharesSpec).vars.all fun n => Tryz.pinned.checked.prog.varReadable n) = true := by kernel_rfl
theorem k_main : Tryz.pinned.checked.prog.mainIs = some ((true, "27ba27145e488dbcee08f281f7c39957e27e97d2dbfdba8603bab06bdb6106e5").1, (true, "27ba27145e488dbcee08f281f7c39957e27e97d2dbfdba8603bab06bdb6106e5").2.toList) := by kernel_rfl
theorem k_looks : true = Tryz.pinned.checked.prog.looks [] := by kernel_rfl
theorem k_fun : (Tryz.f3.params.toList.all fun t => !Tryz.pinned.checked.prog.wantsStandIn t) = true := by kernel_rfl
theorem k_goes : false = Rows.roundSharesRow.goesBy Tryz.pinned.checked.prog := by kernel_rfl
theorem k_vl : Rows.roundSharesRow.veiled = (Tryz.f3.params.toList ++ (OpenSpec.ofChange Rows.roundSharesSpec).bare.plain.varTypes Tryz.pinned.checked.prog ++ Tryz.f3.resultTypes.toList).any (Tryz.pinned.checked.prog.veiledRec ·) ∧ Rows.roundSharesRow.veiledFits Tryz.pinned.checked.prog Tryz.f3.params.toList (Tryz.f3.params.toList ++ (OpenSpec.ofChange Rows.roundSharesSpec).bare.plain.varTypes Tryz.pinned.checked.prog ++ Tryz.f3.resultTypes.toList) = true := ⟨by kernel_rfl, by kernel_rfl⟩
end LHR
end Go.Proofs.YtfgdmiigmcnmpaaGreatFmt
