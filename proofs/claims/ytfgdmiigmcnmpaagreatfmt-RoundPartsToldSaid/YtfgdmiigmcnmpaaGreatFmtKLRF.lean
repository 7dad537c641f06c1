import Derived.Test.YtfgdmiigmcnmpaaGreatFmtCards
import Derived.Test.YtfgdmiigmcnmpaaGreatFmtTie
import Derived.WalkKit
import Derived.ProofKit
import Derived.OpenShut
import Derived.Stop.JoinedTold
import Derived.Stop.JoinedAt
import Derived.SevenToldRow
import Derived.SevenTiedAt
import Derived.Laws.Cover2
set_option linter.unusedVariables false
set_option linter.unusedSimpArgs false
namespace Go.Proofs.YtfgdmiigmcnmpaaGreatFmt
namespace LRR
open Go.ChangeShapes Go.WideShapes Go.ChangeAt Go.RowKit
open Go.Extern.Stop Go.Stop Go.Extern
/- each closed fact by itself: together they fill the kernel's memory -/
theorem wrap : Func.isWrapper Tryz.pinned.checked.prog Tryz.f5 Rows.roundPartsRow.wrapper Rows.roundPartsRow.mainSum := by
  unfold Func.isWrapper; first | (rw [if_pos (by decide +kernel)]; kernel_rfl) | (rw [if_neg (by decide +kernel)]; exact ⟨rfl, rfl⟩)
theorem more : Rows.roundPartsRow.moreEntering Tryz.pinned.checked.prog Tryz.f5 := OpenClaim.moreEntering_of (by kernel_rfl) (by kernel_rfl) (by kernel_rfl) (by kernel_rfl) (by kernel_rfl) (by kernel_rfl) (by kernel_rfl) (by kernel_rfl) (by kernel_rfl) (by kernel_rfl)
theorem inst : Func.isInstance Tryz.pinned.checked.prog Tryz.f5 Rows.roundPartsRow.origin Rows.roundPartsRow.targs := of_decide_eq_true (by kernel_rfl)
theorem k_w : Rows.roundPartsRow.wfByText (OpenSpec.ofChange Rows.roundPartsSpec) = true := by kernel_rfl
theorem k_mr : mapsRowed Tryz.pinned.checked.prog = true := by kernel_rfl
theorem k_tie : namedTie Tryz.pinned.checked.prog Rows.roundPartsRow.namedList (OpenSpec.ofChange Rows.roundPartsSpec).vars = true := by kernel_rfl
theorem k_fn : Tryz.pinned.checked.prog.funcNamed Rows.roundPartsRow.func = some 5 := by kernel_rfl
theorem k_r : (Tryz.f5.params.toList.all fun t => Tryz.pinned.checked.prog.readableRec t) = true := by kernel_rfl
theorem k_word : Tryz.pinned.checked.prog.envWorded = true := by kernel_rfl
theorem k_in : Rows.roundPartsRow.inPlace = Tryz.pinned.checked.prog.inPlace 5 := by kernel_rfl
theorem k_op : Rows.roundPartsRow.unfollowed = Tryz.pinned.checked.prog.unfollowed 5 := by kernel_rfl
theorem k_rc : Rows.roundPartsRow.recurses = Tryz.pinned.checked.prog.recurses 5 := by kernel_rfl
theorem k_vs : Rows.roundPartsRow.named = Tryz.pinned.checked.prog.varsNamed 5 := by kernel_rfl
theorem k_mp : Rows.roundPartsRow.maps = (Tryz.f5.params.toList ++ (OpenSpec.ofChange Rows.roundPartsSpec).bare.plain.varTypes Tryz.pinned.checked.prog).any (Tryz.pinned.checked.prog.mapsRec ·) := by kernel_rfl
theorem k_if : Rows.roundPartsRow.ifaces = (Tryz.f5.params.toList ++ (OpenSpec.ofChange Rows.roundPartsSpec).bare.plain.varTypes Tryz.pinned.checked.prog).any (Tryz.pinned.checked.prog.ifacesRec ·) := by kernel_rfl
theorem k_mo : Rows.roundPartsRow.mapsOut = Tryz.pinned.checked.prog.mapsAmong Tryz.f5.resultTypes.toList := by kernel_rfl
theorem k_lo : Rows.roundPartsRow.loops = (Tryz.f5.params.toList ++ (OpenSpec.ofChange Rows.roundPartsSpec).bare.plain.varTypes Tryz.pinned.checked.prog).any (Tryz.pinned.checked.prog.loopsFrom ·) := by kernel_rfl
theorem k_wk : Rows.roundPartsRow.wideKeys = (Tryz.f5.params.toList ++ (OpenSpec.ofChange Rows.roundPartsSpec).bare.plain.varTypes Tryz.pinned.checked.prog ++ Tryz.f5.resultTypes.toList).any (Tryz.pinned.checked.prog.wideKeysFrom ·) := by kernel_rfl
theorem k_vars : ((OpenSpec.ofChange Rows.roundPartsSpec).vars.all fun n => Tryz.pinned.checked.prog.varReadable n) = true := by kernel_rfl
theorem k_main : Tryz.pinned.checked.prog.mainIs = some ((true, "27ba27145e488dbcee08f281f7c39957e27e97d2dbfdba8603bab06bdb6106e5").1, (true, "27ba27145e488dbcee08f281f7c39957e27e97d2dbfdba8603bab06bdb6106e5").2.toList) := by kernel_rfl
theorem k_looks : true = Tryz.pinned.checked.prog.looks [] := by kernel_rfl
theorem k_fun : (Tryz.f5.params.toList.all fun t => !Tryz.pinned.checked.prog.wantsStandIn t) = true := by kernel_rfl
theorem k_goes : false = Rows.roundPartsRow.goesBy Tryz.pinned.checked.prog := by kernel_rfl
theorem k_vl : Rows.roundPartsRow.veiled = (Tryz.f5.params.toList ++ (OpenSpec.ofChange Rows.roundPartsSpec).bare.plain.varTypes Tryz.pinned.checked.prog ++ Tryz.f5.resultTypes.toList).any (Tryz.pinned.checked.prog.veiledRec ·) ∧ Rows.roundPartsRow.veiledFits Tryz.pinned.checked.prog Tryz.f5.params.toList (Tryz.f5.params.toList ++ (OpenSpec.ofChange Rows.roundPartsSpec).bare.plain.varTypes Tryz.pinned.checked.prog ++ Tryz.f5.resultTypes.toList) = true := ⟨by kernel_rfl, by kernel_rfl⟩
end LRR
end Go.Proofs.YtfgdmiigmcnmpaaGreatFmt
