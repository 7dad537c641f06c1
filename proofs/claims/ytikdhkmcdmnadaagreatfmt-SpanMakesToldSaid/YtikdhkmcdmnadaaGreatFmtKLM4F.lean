import Derived.Test.YtikdhkmcdmnadaaGreatFmtCards
import Derived.Test.YtikdhkmcdmnadaaGreatFmtTie
import Derived.WalkKit
import Derived.ProofKit
import Derived.OpenShut
import Derived.Stop.JoinedTold
import Derived.Stop.JoinedAt
import Derived.SevenToldRow
import Derived.SevenTiedAt
import Derived.Laws.Cover2
set_option linter.unusedVariables false
set_option linter.unusedSimpArgs false
namespace Go.Proofs.YtikdhkmcdmnadaaGreatFmt
namespace LM4R
open Go.ChangeShapes Go.WideShapes Go.ChangeAt Go.RowKit
open Go.Extern.Stop Go.Stop Go.Extern
/- each closed fact by itself: together they fill the kernel's memory -/
theorem wrap : Func.isWrapper Tryz.pinned.checked.prog Tryz.f3 Rows.spanMakesRow.wrapper Rows.spanMakesRow.mainSum := by
  unfold Func.isWrapper; first | (rw [if_pos (by decide +kernel)]; kernel_rfl) | (rw [if_neg (by decide +kernel)]; exact ⟨rfl, rfl⟩)
theorem more : Rows.spanMakesRow.moreEntering Tryz.pinned.checked.prog Tryz.f3 := OpenClaim.moreEntering_of (by kernel_rfl) (by kernel_rfl) (by kernel_rfl) (by kernel_rfl) (by kernel_rfl) (by kernel_rfl) (by kernel_rfl) (by kernel_rfl) (by kernel_rfl) (by kernel_rfl)
theorem inst : Func.isInstance Tryz.pinned.checked.prog Tryz.f3 Rows.spanMakesRow.origin Rows.spanMakesRow.targs := of_decide_eq_true (by kernel_rfl)
theorem k_w : Rows.spanMakesRow.wfByText (OpenSpec.ofChange Rows.spanMakesSpec) = true := by kernel_rfl
theorem k_mr : mapsRowed Tryz.pinned.checked.prog = true := by kernel_rfl
theorem k_tie : namedTie Tryz.pinned.checked.prog Rows.spanMakesRow.namedList (OpenSpec.ofChange Rows.spanMakesSpec).vars = true := by kernel_rfl
theorem k_fn : Tryz.pinned.checked.prog.funcNamed Rows.spanMakesRow.func = some 3 := by kernel_rfl
theorem k_r : (Tryz.f3.params.toList.all fun t => Tryz.pinned.checked.prog.readableRec t) = true := by kernel_rfl
theorem k_word : Tryz.pinned.checked.prog.envWorded = true := by kernel_rfl
theorem k_in : Rows.spanMakesRow.inPlace = Tryz.pinned.checked.prog.inPlace 3 := by kernel_rfl
theorem k_op : Rows.spanMakesRow.unfollowed = Tryz.pinned.checked.prog.unfollowed 3 := by kernel_rfl
theorem k_rc : Rows.spanMakesRow.recurses = Tryz.pinned.checked.prog.recurses 3 := by kernel_rfl
theorem k_vs : Rows.spanMakesRow.named = Tryz.pinned.checked.prog.varsNamed 3 := by kernel_rfl
theorem k_mp : Rows.spanMakesRow.maps = (Tryz.f3.params.toList ++ (OpenSpec.ofChange Rows.spanMakesSpec).bare.plain.varTypes Tryz.pinned.checked.prog).any (Tryz.pinned.checked.prog.mapsRec ·) := by kernel_rfl
theorem k_if : Rows.spanMakesRow.ifaces = (Tryz.f3.params.toList ++ (OpenSpec.ofChange Rows.spanMakesSpec).bare.plain.varTypes Tryz.pinned.checked.prog).any (Tryz.pinned.checked.prog.ifacesRec ·) := by kernel_rfl
theorem k_mo : Rows.spanMakesRow.mapsOut = Tryz.pinned.checked.prog.mapsAmong Tryz.f3.resultTypes.toList := by kernel_rfl
theorem k_lo : Rows.spanMakesRow.loops = (Tryz.f3.params.toList ++ (OpenSpec.ofChange Rows.spanMakesSpec).bare.plain.varTypes Tryz.pinned.checked.prog).any (Tryz.pinned.checked.prog.loopsFrom ·) := by kernel_rfl
theorem k_wk : Rows.spanMakesRow.wideKeys = (Tryz.f3.params.toList ++ (OpenSpec.ofChange Rows.spanMakesSpec).bare.plain.varTypes Tryz.pinned.checked.prog ++ Tryz.f3.resultTypes.toList).any (Tryz.pinned.checked.prog.wideKeysFrom ·) := by kernel_rfl
theorem k_vars : ((OpenSpec.ofChange Rows.spanMakesSpec).vars.all fun n => Tryz.pinned.checked.prog.varReadable n) = true := by kernel_rfl
theorem k_main : Tryz.pinned.checked.prog.mainIs = some ((true, "2f7d74c8cf4d3c4a1743dc7765aa6b0e7b4541c76b13eb78cb200c69ca2d7110").1, (true, "2f7d74c8cf4d3c4a1743dc7765aa6b0e7b4541c76b13eb78cb200c69ca2d7110").2.toList) := by kernel_rfl
theorem k_looks : true = Tryz.pinned.checked.prog.looks [] := by kernel_rfl
theorem k_fun : (Tryz.f3.params.toList.all fun t => !Tryz.pinned.checked.prog.wantsStandIn t) = true := by kernel_rfl
theorem k_goes : false = Rows.spanMakesRow.goesBy Tryz.pinned.checked.prog := by kernel_rfl
theorem k_vl : Rows.spanMakesRow.veiled = (Tryz.f3.params.toList ++ (OpenSpec.ofChange Rows.spanMakesSpec).bare.plain.varTypes Tryz.pinned.checked.prog ++ Tryz.f3.resultTypes.toList).any (Tryz.pinned.checked.prog.veiledRec ·) ∧ Rows.spanMakesRow.veiledFits Tryz.pinned.checked.prog Tryz.f3.params.toList (Tryz.f3.params.toList ++ (OpenSpec.ofChange Rows.spanMakesSpec).bare.plain.varTypes Tryz.pinned.checked.prog ++ Tryz.f3.resultTypes.toList) = true := ⟨by kernel_rfl, by kernel_rfl⟩
end LM4R
end Go.Proofs.YtikdhkmcdmnadaaGreatFmt
