import Derived.Test.YtdgdbolmmkfkcaaGreatFmtCards
import Derived.Test.YtdgdbolmmkfkcaaGreatFmtTie
import Derived.WalkKit
import Derived.ProofKit
import Derived.OpenShut
import Derived.Stop.JoinedTold
import Derived.Stop.JoinedAt
import Derived.SevenToldRow
import Derived.SevenTiedAt
import Derived.Laws.Cover2
namespace Go.Proofs.YtdgdbolmmkfkcaaGreatFmt
namespace LMR
open Go.ChangeShapes Go.WideShapes Go.ChangeAt Go.RowKit
open Go.Extern.Stop Go.Stop Go.Extern
/- each closed fact by itself: together they fill the kernel's memory -/
theorem wrap : Func.isWrapper Tryz.pinned.checked.prog Tryz.f4 Rows.roundRisesRow.wrapper Rows.roundRisesRow.mainSum := by
  unfold Func.isWrapper; first | (rw [if_pos (by decide +kernel)]; kernel_rfl) | (rw [if_neg (by decide +kernel)]; exact ⟨rfl, rfl⟩)
theorem more : Rows.roundRisesRow.moreEntering Tryz.pinned.checked.prog Tryz.f4 := OpenClaim.moreEntering_of (by kernel_rfl) (by kernel_rfl) (by kernel_rfl) (by kernel_rfl) (by kernel_rfl) (by kernel_rfl) (by kernel_rfl) (by kernel_rfl) (by kernel_rfl) (by kernel_rfl)
theorem inst : Func.isInstance Tryz.pinned.checked.prog Tryz.f4 Rows.roundRisesRow.origin Rows.roundRisesRow.targs := of_decide_eq_true (by kernel_rfl)
theorem k_w : Rows.roundRisesRow.wfByText (OpenSpec.ofChange Rows.roundRisesSpec) = true := by kernel_rfl
theorem k_mr : mapsRowed Tryz.pinned.checked.prog = true := by kernel_rfl
theorem k_tie : namedTie Tryz.pinned.checked.prog Rows.roundRisesRow.namedList (OpenSpec.ofChange Rows.roundRisesSpec).vars = true := by kernel_rfl
theorem k_fn : Tryz.pinned.checked.prog.funcNamed Rows.roundRisesRow.func = some 4 := by kernel_rfl
theorem k_r : (Tryz.f4.params.toList.all fun t => Tryz.pinned.checked.prog.readableRec t) = true := by kernel_rfl
theorem k_word : Tryz.pinned.checked.prog.envWorded = true := by kernel_rfl
theorem k_in : Rows.roundRisesRow.inPlace = Tryz.pinned.checked.prog.inPlace 4 := by kernel_rfl
theorem k_op : Rows.roundRisesRow.unfollowed = Tryz.pinned.checked.prog.unfollowed 4 := by kernel_rfl
theorem k_rc : Rows.roundRisesRow.recurses = Tryz.pinned.checked.prog.recurses 4 := by kernel_rfl
theorem k_vs : Rows.roundRisesRow.named = Tryz.pinned.checked.prog.varsNamed 4 := by kernel_rfl
theorem k_mp : Rows.roundRisesRow.maps = (Tryz.f4.params.toList ++ (OpenSpec.ofChange Rows.roundRisesSpec).bare.plain.varTypes Tryz.pinned.checked.prog).any (Tryz.pinned.checked.prog.mapsRec ·) := by kernel_rfl
theorem k_if : Rows.roundRisesRow.ifaces = (Tryz.f4.params.toList ++ (OpenSpec.ofChange Rows.roundRisesSpec).bare.plain.varTypes Tryz.pinned.checked.prog).any (Tryz.pinned.checked.prog.ifacesRec ·) := by kernel_rfl
theorem k_mo : Rows.roundRisesRow.mapsOut = Tryz.pinned.checked.prog.mapsAmong Tryz.f4.resultTypes.toList := by kernel_rfl
theorem k_lo : Rows.roundRisesRow.loops = (Tryz.f4.params.toList ++ (OpenSpec.ofChange Rows.roundRisesSpec).bare.plain.varTypes Tryz.pinned.checked.prog).any (Tryz.pinned.checked.prog.loopsFrom ·) := by kernel_rfl
theorem k_wk : Rows.roundRisesRow.wideKeys = (Tryz.f4.params.toList ++ (OpenSpec.ofChange Rows.roundRisesSpec).bare.plain.varTypes Tryz.pinned.checked.prog ++ Tryz.f4.resultTypes.toList).any (Tryz.pinned.checked.prog.wideKeysFrom ·) := by kernel_rfl
theorem k_vars : ((OpenSpec.ofChange Rows.roundRisesSpec).vars.all fun n => Tryz.pinned.checked.prog.varReadable n) = true := by kernel_rfl
theorem k_main : Tryz.pinned.checked.prog.mainIs = some ((true, "f0e754ae650a5933c58882b97d29def178d2e7389270b8aabdc6de4ba376cf7c").1, (true, "f0e754ae650a5933c58882b97d29def178d2e7389270b8aabdc6de4ba376cf7c").2.toList) := by kernel_rfl
theorem k_looks : true = Tryz.pinned.checked.prog.looks [] := by kernel_rfl
theorem k_fun : (Tryz.f4.params.toList.all fun t => !Tryz.pinned.checked.prog.wantsStandIn t) = true := by kernel_rfl
theorem k_goes : false = Rows.roundRisesRow.goesBy Tryz.pinned.checked.prog := by kernel_rfl
theorem k_vl : Rows.roundRisesRow.veiled = (Tryz.f4.params.toList ++ (OpenSpec.ofChange Rows.roundRisesSpec).bare.plain.varTypes Tryz.pinned.checked.prog ++ Tryz.f4.resultTypes.toList).any (Tryz.pinned.checked.prog.veiledRec ·) ∧ Rows.roundRisesRow.veiledFits Tryz.pinned.checked.prog Tryz.f4.params.toList (Tryz.f4.params.toList ++ (OpenSpec.ofChange Rows.roundRisesSpec).bare.plain.varTypes Tryz.pinned.checked.prog ++ Tryz.f4.resultTypes.toList) = true := ⟨by kernel_rfl, by kernel_rfl⟩
end LMR
end Go.Proofs.YtdgdbolmmkfkcaaGreatFmt
