import Derived.Test.YtogjodnmegafdaaGreatFmtCards
import Derived.Test.YtogjodnmegafdaaGreatFmtTie
import Derived.WalkKit
import Derived.ProofKit
import Derived.OpenShut
import Derived.Stop.JoinedTold
import Derived.Stop.JoinedAt
import Derived.SevenToldRow
import Derived.SevenTiedAt
import Derived.Laws.Cover2
set_option linter.unusedVariables false
set_option linter.unusedSimpArgs false
namespace Go.Proofs.YtogjodnmegafdaaGreatFmt
namespace LNR
open Go.ChangeShapes Go.WideShapes Go.ChangeAt Go.RowKit
open Go.Extern.Stop Go.Stop Go.Extern
/- each closed fact by itself: together they fill the kernel's memory -/
theorem wrap : Func.isWrapper Tryz.pinned.checked.prog Tryz.f7 Rows.roundNextRow.wrapper Rows.roundNextRow.mainSum := by
  unfold Func.isWrapper; first | (rw [if_pos (by decide +kernel)]; kernel_rfl) | (rw [if_neg (by decide +kernel)]; exact ⟨rfl, rfl⟩)
theorem more : Rows.roundNextRow.moreEntering Tryz.pinned.checked.prog Tryz.f7 := OpenClaim.moreEntering_of (by kernel_rfl) (by kernel_rfl) (by kernel_rfl) (by kernel_rfl) (by kernel_rfl) (by kernel_rfl) (by kernel_rfl) (by kernel_rfl) (by kernel_rfl) (by kernel_rfl)
theorem inst : Func.isInstance Tryz.pinned.checked.prog Tryz.f7 Rows.roundNextRow.origin Rows.roundNextRow.targs := of_decide_eq_true (by kernel_rfl)
theorem k_w : Rows.roundNextRow.wfByText (OpenSpec.ofChange Rows.roundNextSpec) = true := by kernel_rfl
theorem k_mr : mapsRowed Tryz.pinned.checked.prog = true := by kernel_rfl
theorem k_tie : namedTie Tryz.pinned.checked.prog Rows.roundNextRow.namedList (OpenSpec.ofChange Rows.roundNextSpec).vars = true := by kernel_rfl
theorem k_fn : Tryz.pinned.checked.prog.funcNamed Rows.roundNextRow.func = some 7 := by kernel_rfl
theorem k_r : (Tryz.f7.params.toList.all fun t => Tryz.pinned.checked.prog.readableRec t) = true := by kernel_rfl
theorem k_word : Tryz.pinned.checked.prog.envWorded = true := by kernel_rfl
theorem k_in : Rows.roundNextRow.inPlace = Tryz.pinned.checked.prog.inPlace 7 := by kernel_rfl
theorem k_op : Rows.roundNextRow.unfollowed = Tryz.pinned.checked.prog.unfollowed 7 := by kernel_rfl
theorem k_rc : Rows.roundNextRow.recurses = Tryz.pinned.checked.prog.recurses 7 := by kernel_rfl
theorem k_vs : Rows.roundNextRow.named = Tryz.pinned.checked.prog.varsNamed 7 := by kernel_rfl
theorem k_mp : Rows.roundNextRow.maps = (Tryz.f7.params.toList ++ (OpenSpec.ofChange Rows.roundNextSpec).bare.plain.varTypes Tryz.pinned.checked.prog).any (Tryz.pinned.checked.prog.mapsRec ·) := by kernel_rfl
theorem k_if : Rows.roundNextRow.ifaces = (Tryz.f7.params.toList ++ (OpenSpec.ofChange Rows.roundNextSpec).bare.plain.varTypes Tryz.pinned.checked.prog).any (Tryz.pinned.checked.prog.ifacesRec ·) := by kernel_rfl
theorem k_mo : Rows.roundNextRow.mapsOut = Tryz.pinned.checked.prog.mapsAmong Tryz.f7.resultTypes.toList := by kernel_rfl
theorem k_lo : Rows.roundNextRow.loops = (Tryz.f7.params.toList ++ (OpenSpec.ofChange Rows.roundNextSpec).bare.plain.varTypes Tryz.pinned.checked.prog).any (Tryz.pinned.checked.prog.loopsFrom ·) := by kernel_rfl
theorem k_wk : Rows.roundNextRow.wideKeys = (Tryz.f7.params.toList ++ (OpenSpec.ofChange Rows.roundNextSpec).bare.plain.varTypes Tryz.pinned.checked.prog ++ Tryz.f7.resultTypes.toList).any (Tryz.pinned.checked.prog.wideKeysFrom ·) := by kernel_rfl
theorem k_vars : ((OpenSpec.ofChange Rows.roundNextSpec).vars.all fun n => Tryz.pinned.checked.prog.varReadable n) = true := by kernel_rfl
theorem k_main : Tryz.pinned.checked.prog.mainIs = some ((true, "b374751dd3a4be8d511002091822ccbf768aa52671401121dba42ba574718144").1, (true, "b374751dd3a4be8d511002091822ccbf768aa52671401121dba42ba574718144").2.toList) := by kernel_rfl
theorem k_looks : true = Tryz.pinned.checked.prog.looks [] := by kernel_rfl
theorem k_fun : (Tryz.f7.params.toList.all fun t => !Tryz.pinned.checked.prog.wantsStandIn t) = true := by kernel_rfl
theorem k_goes : false = Rows.roundNextRow.goesBy Tryz.pinned.checked.prog := by kernel_rfl
theorem k_vl : Rows.roundNextRow.veiled = (Tryz.f7.params.toList ++ (OpenSpec.ofChange Rows.roundNextSpec).bare.plain.varTypes Tryz.pinned.checked.prog ++ Tryz.f7.resultTypes.toList).any (Tryz.pinned.checked.prog.veiledRec ·) ∧ Rows.roundNextRow.veiledFits Tryz.pinned.checked.prog Tryz.f7.params.toList (Tryz.f7.params.toList ++ (OpenSpec.ofChange Rows.roundNextSpec).bare.plain.varTypes Tryz.pinned.checked.prog ++ Tryz.f7.resultTypes.toList) = true := ⟨by kernel_rfl, by kernel_rfl⟩
end LNR
end Go.Proofs.YtogjodnmegafdaaGreatFmt
