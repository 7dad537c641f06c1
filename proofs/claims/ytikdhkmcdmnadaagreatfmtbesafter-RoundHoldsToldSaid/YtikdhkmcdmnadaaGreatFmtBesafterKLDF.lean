import Derived.Test.YtikdhkmcdmnadaaGreatFmtBesafterCards
import Derived.Test.YtikdhkmcdmnadaaGreatFmtBesafterTie
import Derived.WalkKit
import Derived.ProofKit
import Derived.OpenShut
import Derived.Stop.JoinedTold
import Derived.Stop.JoinedAt
import Derived.SevenToldRow
import Derived.SevenTiedAt
import Derived.Laws.Cover2
set_option linter.unusedVariables false
set_option linter.unusedSimpArgs false
namespace Go.Proofs.YtikdhkmcdmnadaaGreatFmtBesafter
namespace LDR
open Go.ChangeShapes Go.WideShapes Go.ChangeAt Go.RowKit
open Go.Extern.Stop Go.Stop Go.Extern
/- each closed fact by itself: together they fill the kernel's memory -/
theorem wrap : Func.isWrapper Tryz.pinned.checked.prog Tryz.f3 Rows.roundHoldsRow.wrapper Rows.roundHoldsRow.mainSum := by
  unfold Func.isWrapper; first | (rw [if_pos (by decide +kernel)]; kernel_rfl) | (rw [if_neg (by decide +kernel)]; exact ⟨rfl, rfl⟩)
theorem more : Rows.roundHoldsRow.moreEntering Tryz.pinned.checked.prog Tryz.f3 := OpenClaim.moreEntering_of (by kernel_rfl) (by kernel_rfl) (by kernel_rfl) (by kernel_rfl) (by kernel_rfl) (by kernel_rfl) (by kernel_rfl) (by kernel_rfl) (by kernel_rfl) (by kernel_rfl)
theorem inst : Func.isInstance Tryz.pinned.checked.prog Tryz.f3 Rows.roundHoldsRow.origin Rows.roundHoldsRow.targs := of_decide_eq_true (by kernel_rfl)
theorem k_w : Rows.roundHoldsRow.wfByText (OpenSpec.ofChange Rows.roundHoldsSpec) = true := by kernel_rfl
theorem k_mr : mapsRowed Tryz.pinned.checked.prog = true := by kernel_rfl
theorem k_tie : namedTie Tryz.pinned.checked.prog Rows.roundHoldsRow.namedList (OpenSpec.ofChange Rows.roundHoldsSpec).vars = true := by kernel_rfl
theorem k_fn : Tryz.pinned.checked.prog.funcNamed Rows.roundHoldsRow.func = some 3 := by kernel_rfl
theorem k_r : (Tryz.f3.params.toList.all fun t => Tryz.pinned.checked.prog.readableRec t) = true := by kernel_rfl
theorem k_word : Tryz.pinned.checked.prog.envWorded = true := by kernel_rfl
theorem k_in : Rows.roundHoldsRow.inPlace = Tryz.pinned.checked.prog.inPlace 3 := by kernel_rfl
theorem k_op : Rows.roundHoldsRow.unfollowed = Tryz.pinned.checked.prog.unfollowed 3 := by kernel_rfl
theorem k_rc : Rows.roundHoldsRow.recurses = Tryz.pinned.checked.prog.recurses 3 := by kernel_rfl
theorem k_vs : Rows.roundHoldsRow.named = Tryz.pinned.checked.prog.varsNamed 3 := by kernel_rfl
theorem k_mp : Rows.roundHoldsRow.maps = (Tryz.f3.params.toList ++ (OpenSpec.ofChange Rows.roundHoldsSpec).bare.plain.varTypes Tryz.pinned.checked.prog).any (Tryz.pinned.checked.prog.mapsRec ·) := by kernel_rfl
theorem k_if : Rows.roundHoldsRow.ifaces = (Tryz.f3.params.toList ++ (OpenSpec.ofChange Rows.roundHoldsSpec).bare.plain.varTypes Tryz.pinned.checked.prog).any (Tryz.pinned.checked.prog.ifacesRec ·) := by kernel_rfl
theorem k_mo : Rows.roundHoldsRow.mapsOut = Tryz.pinned.checked.prog.mapsAmong Tryz.f3.resultTypes.toList := by kernel_rfl
theorem k_lo : Rows.roundHoldsRow.loops = (Tryz.f3.params.toList ++ (OpenSpec.ofChange Rows.roundHoldsSpec).bare.plain.varTypes Tryz.pinned.checked.prog).any (Tryz.pinned.checked.prog.loopsFrom ·) := by kernel_rfl
theorem k_wk : Rows.roundHoldsRow.wideKeys = (Tryz.f3.params.toList ++ (OpenSpec.ofChange Rows.roundHoldsSpec).bare.plain.varTypes Tryz.pinned.checked.prog ++ Tryz.f3.resultTypes.toList).any (Tryz.pinned.checked.prog.wideKeysFrom ·) := by kernel_rfl
theorem k_vars : ((OpenSpec.ofChange Rows.roundHoldsSpec).vars.all fun n => Tryz.pinned.checked.prog.varReadable n) = true := by kernel_rfl
theorem k_main : Tryz.pinned.checked.prog.mainIs = some ((true, "ddea5ff516fd6f95ab07839c64b7eba3640b097a5f5b1584241c5db5cdb9fc1a").1, (true, "ddea5ff516fd6f95ab07839c64b7eba3640b097a5f5b1584241c5db5cdb9fc1a").2.toList) := by kernel_rfl
theorem k_looks : true = Tryz.pinned.checked.prog.looks [] := by kernel_rfl
theorem k_fun : (Tryz.f3.params.toList.all fun t => !Tryz.pinned.checked.prog.wantsStandIn t) = true := by kernel_rfl
theorem k_goes : false = Rows.roundHoldsRow.goesBy Tryz.pinned.checked.prog := by kernel_rfl
theorem k_vl : Rows.roundHoldsRow.veiled = (Tryz.f3.params.toList ++ (OpenSpec.ofChange Rows.roundHoldsSpec).bare.plain.varTypes Tryz.pinned.checked.prog ++ Tryz.f3.resultTypes.toList).any (Tryz.pinned.checked.prog.veiledRec ·) ∧ Rows.roundHoldsRow.veiledFits Tryz.pinned.checked.prog Tryz.f3.params.toList (Tryz.f3.params.toList ++ (OpenSpec.ofChange Rows.roundHoldsSpec).bare.plain.varTypes Tryz.pinned.checked.prog ++ Tryz.f3.resultTypes.toList) = true := ⟨by kernel_rfl, by kernel_rfl⟩
end LDR
end Go.Proofs.YtikdhkmcdmnadaaGreatFmtBesafter
