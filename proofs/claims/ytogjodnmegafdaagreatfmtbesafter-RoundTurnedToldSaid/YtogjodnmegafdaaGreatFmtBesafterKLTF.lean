import Derived.Test.YtogjodnmegafdaaGreatFmtBesafterCards
import Derived.Test.YtogjodnmegafdaaGreatFmtBesafterTie
import Derived.WalkKit
import Derived.ProofKit
import Derived.OpenShut
import Derived.Stop.JoinedTold
import Derived.Stop.JoinedAt
import Derived.SevenToldRow
import Derived.SevenTiedAt
import Derived.Laws.Cover2
set_option linter.unusedVariables false
set_option linter.unusedSimpArgs false
namespace Go.Proofs.YtogjodnmegafdaaGreatFmtBesafter
namespace LTR
open Go.ChangeShapes Go.WideShapes Go.ChangeAt Go.RowKit
open Go.Extern.Stop Go.Stop Go.Extern
/- each closed fact by itself: together they fill the kernel's memory -/
theorem wrap : Func.isWrapper Tryz.pinned.checked.prog Tryz.f3 Rows.roundTurnedRow.wrapper Rows.roundTurnedRow.mainSum := by
  unfold Func.isWrapper; first | (rw [if_pos (by decide +kernel)]; kernel_rfl) | (rw [if_neg (by decide +kernel)]; exact ⟨rfl, rfl⟩)
theorem more : Rows.roundTurnedRow.moreEntering Tryz.pinned.checked.prog Tryz.f3 := OpenClaim.moreEntering_of (by kernel_rfl) (by kernel_rfl) (by kernel_rfl) (by kernel_rfl) (by kernel_rfl) (by kernel_rfl) (by kernel_rfl) (by kernel_rfl) (by kernel_rfl) (by kernel_rfl)
theorem inst : Func.isInstance Tryz.pinned.checked.prog Tryz.f3 Rows.roundTurnedRow.origin Rows.roundTurnedRow.targs := of_decide_eq_true (by kernel_rfl)
theorem k_w : Rows.roundTurnedRow.wfByText (OpenSpec.ofChange Rows.roundTurnedSpec) = true := by kernel_rfl
theorem k_mr : mapsRowed Tryz.pinned.checked.prog = true := by kernel_rfl
theorem k_tie : namedTie Tryz.pinned.checked.prog Rows.roundTurnedRow.namedList (OpenSpec.ofChange Rows.roundTurnedSpec).vars = true := by kernel_rfl
theorem k_fn : Tryz.pinned.checked.prog.funcNamed Rows.roundTurnedRow.func = some 3 := by kernel_rfl
theorem k_r : (Tryz.f3.params.toList.all fun t => Tryz.pinned.checked.prog.readableRec t) = true := by kernel_rfl
theorem k_word : Tryz.pinned.checked.prog.envWorded = true := by kernel_rfl
theorem k_in : Rows.roundTurnedRow.inPlace = Tryz.pinned.checked.prog.inPlace 3 := by kernel_rfl
theorem k_op : Rows.roundTurnedRow.unfollowed = Tryz.pinned.checked.prog.unfollowed 3 := by kernel_rfl
theorem k_rc : Rows.roundTurnedRow.recurses = Tryz.pinned.checked.prog.recurses 3 := by kernel_rfl
theorem k_vs : Rows.roundTurnedRow.named = Tryz.pinned.checked.prog.varsNamed 3 := by kernel_rfl
theorem k_mp : Rows.roundTurnedRow.maps = (Tryz.f3.params.toList ++ (OpenSpec.ofChange Rows.roundTurnedSpec).bare.plain.varTypes Tryz.pinned.checked.prog).any (Tryz.pinned.checked.prog.mapsRec ·) := by kernel_rfl
theorem k_if : Rows.roundTurnedRow.ifaces = (Tryz.f3.params.toList ++ (OpenSpec.ofChange Rows.roundTurnedSpec).bare.plain.varTypes Tryz.pinned.checked.prog).any (Tryz.pinned.checked.prog.ifacesRec ·) := by kernel_rfl
theorem k_mo : Rows.roundTurnedRow.mapsOut = Tryz.pinned.checked.prog.mapsAmong Tryz.f3.resultTypes.toList := by kernel_rfl
theorem k_lo : Rows.roundTurnedRow.loops = (Tryz.f3.params.toList ++ (OpenSpec.ofChange Rows.roundTurnedSpec).bare.plain.varTypes Tryz.pinned.checked.prog).any (Tryz.pinned.checked.prog.loopsFrom ·) := by kernel_rfl
theorem k_wk : Rows.roundTurnedRow.wideKeys = (Tryz.f3.params.toList ++ (OpenSpec.ofChange Rows.roundTurnedSpec).bare.plain.varTypes Tryz.pinned.checked.prog ++ Tryz.f3.resultTypes.toList).any (Tryz.pinned.checked.prog.wideKeysFrom ·) := by kernel_rfl
theorem k_vars : ((OpenSpec.ofChange Rows.roundTurnedSpec).vars.all fun n => Tryz.pinned.checked.prog.varReadable n) = true := by kernel_rfl
theorem k_main : Tryz.pinned.checked.prog.mainIs = some ((true, "5ad7507c98fea454b4d9f89e2cd91cde5940a08a0da72c583b26dff08a750966").1, (true, "5ad7507c98fea454b4d9f89e2cd91cde5940a08a0da72c583b26dff08a750966").2.toList) := by kernel_rfl
theorem k_looks : true = Tryz.pinned.checked.prog.looks [] := by kernel_rfl
theorem k_fun : (Tryz.f3.params.toList.all fun t => !Tryz.pinned.checked.prog.wantsStandIn t) = true := by kernel_rfl
theorem k_goes : false = Rows.roundTurnedRow.goesBy Tryz.pinned.checked.prog := by kernel_rfl
theorem k_vl : Rows.roundTurnedRow.veiled = (Tryz.f3.params.toList ++ (OpenSpec.ofChange Rows.roundTurnedSpec).bare.plain.varTypes Tryz.pinned.checked.prog ++ Tryz.f3.resultTypes.toList).any (Tryz.pinned.checked.prog.veiledRec ·) ∧ Rows.roundTurnedRow.veiledFits Tryz.pinned.checked.prog Tryz.f3.params.toList (Tryz.f3.params.toList ++ (OpenSpec.ofChange Rows.roundTurnedSpec).bare.plain.varTypes Tryz.pinned.checked.prog ++ Tryz.f3.resultTypes.toList) = true := ⟨by kernel_rfl, by kernel_rfl⟩
end LTR
end Go.Proofs.YtogjodnmegafdaaGreatFmtBesafter
