import Derived.Test.YtogjodnmegafdaaGreatFmtCards
import Derived.Test.YtogjodnmegafdaaGreatFmtTie
import Derived.WalkKit
import Derived.ProofKit
import Derived.OpenShut
import Derived.Stop.JoinedTold
import Derived.Stop.JoinedAt
import Derived.SevenToldRow
import Derived.SevenTiedAt
import Derived.Laws.Cover2
set_option linter.unusedVariables false
set_option linter.unusedSimpArgs false
namespace Go.Proofs.YtogjodnmegafdaaGreatFmt
namespace LQR
open Go.ChangeShapes Go.WideShapes Go.ChangeAt Go.RowKit
open Go.Extern.Stop Go.Stop Go.Extern
/- each closed fact by itself: together they fill the kernel's memory -/
theorem wrap : Func.isWrapper Tryz.pinned.checked.prog Tryz.f8 Rows.roundQuotientsRow.wrapper Rows.roundQuotientsRow.mainSum := by
  unfold Func.isWrapper; first | (rw [if_pos (by decide +kernel)]; kernel_rfl) | (rw [if_neg (by decide +kernel)]; exact ⟨rfl, rfl⟩)
theorem more : Rows.roundQuotientsRow.moreEntering Tryz.pinned.checked.prog Tryz.f8 := OpenClaim.moreEntering_of (by kernel_rfl) (by kernel_rfl) (by kernel_rfl) (by kernel_rfl) (by kernel_rfl) (by kernel_rfl) (by kernel_rfl) (by kernel_rfl) (by kernel_rfl) (by kernel_rfl)
theorem inst : Func.isInstance Tryz.pinned.checked.prog Tryz.f8 Rows.roundQuotientsRow.origin Rows.roundQuotientsRow.targs := of_decide_eq_true (by kernel_rfl)
theorem k_w : Rows.roundQuotientsRow.wfByText (OpenSpec.ofChange Rows.roundQuotientsSpec) = true := by kernel_rfl
theorem k_mr : mapsRowed Tryz.pinned.checked.prog = true := by kernel_rfl
theorem k_tie : namedTie Tryz.pinned.checked.prog Rows.roundQuotientsRow.namedList (OpenSpec.ofChange Rows.roundQuotientsSpec).vars = true := by kernel_rfl
theorem k_fn : Tryz.pinned.checked.prog.funcNamed Rows.roundQuotientsRow.func = some 8 := by kernel_rfl
theorem k_r : (Tryz.f8.params.toList.all fun t => Tryz.pinned.checked.prog.readableRec t) = true := by kernel_rfl
theorem k_word : Tryz.pinned.checked.prog.envWorded = true := by kernel_rfl
theorem k_in : Rows.roundQuotientsRow.inPlace = Tryz.pinned.checked.prog.inPlace 8 := by kernel_rfl
theorem k_op : Rows.roundQuotientsRow.unfollowed = Tryz.pinned.checked.prog.unfollowed 8 := by kernel_rfl
theorem k_rc : Rows.roundQuotientsRow.recurses = Tryz.pinned.checked.prog.recurses 8 := by kernel_rfl
theorem k_vs : Rows.roundQuotientsRow.named = Tryz.pinned.checked.prog.varsNamed 8 := by kernel_rfl
theorem k_mp : Rows.roundQuotientsRow.maps = (Tryz.f8.params.toList ++ (OpenSpec.ofChange Rows.roundQuotientsSpec).bare.plain.varTypes Tryz.pinned.checked.prog).any (Tryz.pinned.checked.prog.mapsRec ·) := by kernel_rfl
theorem k_if : Rows.roundQuotientsRow.ifaces = (Tryz.f8.params.toList ++ (OpenSpec.ofChange Rows.roundQuotientsSpec).bare.plain.varTypes Tryz.pinned.checked.prog).any (Tryz.pinned.checked.prog.ifacesRec ·) := by kernel_rfl
theorem k_mo : Rows.roundQuotientsRow.mapsOut = Tryz.pinned.checked.prog.mapsAmong Tryz.f8.resultTypes.toList := by kernel_rfl
theorem k_lo : Rows.roundQuotientsRow.loops = (Tryz.f8.params.toList ++ (OpenSpec.ofChange Rows.roundQuotientsSpec).bare.plain.varTypes Tryz.pinned.checked.prog).any (Tryz.pinned.checked.prog.loopsFrom ·) := by kernel_rfl
theorem k_wk : Rows.roundQuotientsRow.wideKeys = (Tryz.f8.params.toList ++ (OpenSpec.ofChange Rows.roundQuotientsSpec).bare.plain.varTypes Tryz.pinned.checked.prog ++ Tryz.f8.resultTypes.toList).any (Tryz.pinned.checked.prog.wideKeysFrom ·) := by kernel_rfl
theorem k_vars : ((OpenSpec.ofChange Rows.roundQuotientsSpec).vars.all fun n => Tryz.pinned.checked.prog.varReadable n) = true := by kernel_rfl
theorem k_main : Tryz.pinned.checked.prog.mainIs = some ((true, "b374751dd3a4be8d511002091822ccbf768aa52671401121dba42ba574718144").1, (true, "b374751dd3a4be8d511002091822ccbf768aa52671401121dba42ba574718144").2.toList) := by kernel_rfl
theorem k_looks : true = Tryz.pinned.checked.prog.looks [] := by kernel_rfl
theorem k_fun : (Tryz.f8.params.toList.all fun t => !Tryz.pinned.checked.prog.wantsStandIn t) = true := by kernel_rfl
theorem k_goes : false = Rows.roundQuotientsRow.goesBy Tryz.pinned.checked.prog := by kernel_rfl
theorem k_vl : Rows.roundQuotientsRow.veiled = (Tryz.f8.params.toList ++ (OpenSpec.ofChange Rows.roundQuotientsSpec).bare.plain.varTypes Tryz.pinned.checked.prog ++ Tryz.f8.resultTypes.toList).any (Tryz.pinned.checked.prog.veiledRec ·) ∧ Rows.roundQuotientsRow.veiledFits Tryz.pinned.checked.prog Tryz.f8.params.toList (Tryz.f8.params.toList ++ (OpenSpec.ofChange Rows.roundQuotientsSpec).bare.plain.varTypes Tryz.pinned.checked.prog ++ Tryz.f8.resultTypes.toList) = true := ⟨by kernel_rfl, by kernel_rfl⟩
end LQR
end Go.Proofs.YtogjodnmegafdaaGreatFmt
