import Derived.Test.YtogjodnmegafdaaGreatFmtCards
import Derived.Test.YtogjodnmegafdaaGreatFmtTie
import Derived.WalkKit
import Derived.ProofKit
import Derived.OpenShut
import Derived.Stop.JoinedTold
import Derived.Stop.JoinedAt
import Derived.SevenToldRow
import Derived.SevenTiedAt
import Derived.Laws.Cover2
set_option linter.unusedVariables false
set_option linter.unusedSimpArgs false
namespace Go.Proofs.YtogjodnmegafdaaGreatFmt
namespace LOR
open Go.ChangeShapes Go.WideShapes Go.ChangeAt Go.RowKit
open Go.Extern.Stop Go.Stop Go.Extern
/- each closed fact by itself: together they fill the kernel's memory -/
theorem wrap : Func.isWrapper Tryz.pinned.checked.prog Tryz.f5 Rows.roundOrdersRow.wrapper Rows.roundOrdersRow.mainSum := by
  unfold Func.isWrapper; first | (rw [if_pos (by decide +kernel)]; kernel_rfl) | (rw [if_neg (by decide +kernel)]; exact ⟨rfl, rfl⟩)
theorem more : Rows.roundOrdersRow.moreEntering Tryz.pinned.checked.prog Tryz.f5 := OpenClaim.moreEntering_of (by kernel_rfl) (by kernel_rfl) (by kernel_rfl) (by kernel_rfl) (by kernel_rfl) (by kernel_rfl) (by kernel_rfl) (by kernel_rfl) (by kernel_rfl) (by kernel_rfl)
theorem inst : Func.isInstance Tryz.pinned.checked.prog Tryz.f5 Rows.roundOrdersRow.origin Rows.roundOrdersRow.targs := of_decide_eq_true (by kernel_rfl)
theorem k_w : Rows.roundOrdersRow.wfByText (OpenSpec.ofChange Rows.roundOrdersSpec) = true := by kernel_rfl
theorem k_mr : mapsRowed Tryz.pinned.checked.prog = true := by kernel_rfl
theorem k_tie : namedTie Tryz.pinned.checked.prog Rows.roundOrdersRow.namedList (OpenSpec.ofChange Rows.roundOrdersSpec).vars = true := by kernel_rfl
theorem k_fn : Tryz.pinned.checked.prog.funcNamed Rows.roundOrdersRow.func = some 5 := by kernel_rfl
theorem k_r : (Tryz.f5.params.toList.all fun t => Tryz.pinned.checked.prog.readableRec t) = true := by kernel_rfl
theorem k_word : Tryz.pinned.checked.prog.envWorded = true := by kernel_rfl
theorem k_in : Rows.roundOrdersRow.inPlace = Tryz.pinned.checked.prog.inPlace 5 := by kernel_rfl
theorem k_op : Rows.roundOrdersRow.unfollowed = Tryz.pinned.checked.prog.unfollowed 5 := by kernel_rfl
theorem k_rc : Rows.roundOrdersRow.recurses = Tryz.pinned.checked.prog.recurses 5 := by kernel_rfl
theorem k_vs : Rows.roundOrdersRow.named = Tryz.pinned.checked.prog.varsNamed 5 := by kernel_rfl
theorem k_mp : Rows.roundOrdersRow.maps = (Tryz.f5.params.toList ++ (OpenSpec.ofChange Rows.roundOrdersSpec).bare.plain.varTypes Tryz.pinned.checked.prog).any (Tryz.pinned.checked.prog.mapsRec ·) := by kernel_rfl
theorem k_if : Rows.roundOrdersRow.ifaces = (Tryz.f5.params.toList ++ (OpenSpec.ofChange Rows.roundOrdersSpec).bare.plain.varTypes Tryz.pinned.checked.prog).any (Tryz.pinned.checked.prog.ifacesRec ·) := by kernel_rfl
theorem k_mo : Rows.roundOrdersRow.mapsOut = Tryz.pinned.checked.prog.mapsAmong Tryz.f5.resultTypes.toList := by kernel_rfl
theorem k_lo : Rows.roundOrdersRow.loops = (Tryz.f5.params.toList ++ (OpenSpec.ofChange Rows.roundOrdersSpec).bare.plain.varTypes Tryz.pinned.checked.prog).any (Tryz.pinned.checked.prog.loopsFrom ·) := by kernel_rfl
theorem k_wk : Rows.roundOrdersRow.wideKeys = (Tryz.f5.params.toList ++ (OpenSpec.ofChange Rows.roundOrdersSpec).bare.plain.varTypes Tryz.pinned.checked.prog ++ Tryz.f5.resultTypes.toList).any (Tryz.pinned.checked.prog.wideKeysFrom ·) := by kernel_rfl
theorem k_vars : ((OpenSpec.ofChange Rows.roundOrdersSpec).vars.all fun n => Tryz.pinned.checked.prog.varReadable n) = true := by kernel_rfl
theorem k_main : Tryz.pinned.checked.prog.mainIs = some ((true, "b374751dd3a4be8d511002091822ccbf768aa52671401121dba42ba574718144").1, (true, "b374751dd3a4be8d511002091822ccbf768aa52671401121dba42ba574718144").2.toList) := by kernel_rfl
theorem k_looks : true = Tryz.pinned.checked.prog.looks [] := by kernel_rfl
theorem k_fun : (Tryz.f5.params.toList.all fun t => !Tryz.pinned.checked.prog.wantsStandIn t) = true := by kernel_rfl
theorem k_goes : false = Rows.roundOrdersRow.goesBy Tryz.pinned.checked.prog := by kernel_rfl
theorem k_vl : Rows.roundOrdersRow.veiled = (Tryz.f5.params.toList ++ (OpenSpec.ofChange Rows.roundOrdersSpec).bare.plain.varTypes Tryz.pinned.checked.prog ++ Tryz.f5.resultTypes.toList).any (Tryz.pinned.checked.prog.veiledRec ·) ∧ Rows.roundOrdersRow.veiledFits Tryz.pinned.checked.prog Tryz.f5.params.toList (Tryz.f5.params.toList ++ (OpenSpec.ofChange Rows.roundOrdersSpec).bare.plain.varTypes Tryz.pinned.checked.prog ++ Tryz.f5.resultTypes.toList) = true := ⟨by kernel_rfl, by kernel_rfl⟩
end LOR
end Go.Proofs.YtogjodnmegafdaaGreatFmt
