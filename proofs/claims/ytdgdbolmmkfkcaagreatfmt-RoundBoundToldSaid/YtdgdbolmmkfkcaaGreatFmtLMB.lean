/- RoundBound (2.3): for every call number and any two bit patterns of float64 the law answers true: Near tells of each exact sum, difference or product below 2^1024 - 2^970 in size, and of none from there on. Conditions: none beyond the card's own (the listed tables of Go's library start as their text lays them; fmt's text is told by the authors' function; this road reads neither). -/
import Derived.Test.YtdgdbolmmkfkcaaGreatFmtJ40
namespace Go.Proofs.YtdgdbolmmkfkcaaGreatFmt
namespace LMB
open Go.ChangeShapes Go.WideShapes Go.ChangeAt Go.RowKit
open Go.Extern.Stop Go.Stop Go.Extern
/- each closed fact by itself: together they fill the kernel's memory -/
theorem wrap : Func.isWrapper Tryz.pinned.checked.prog Tryz.f3 Rows.roundBoundRow.wrapper Rows.roundBoundRow.mainSum := by
  unfold Func.isWrapper; first | (rw [if_pos (by decide +kernel)]; kernel_rfl) | (rw [if_neg (by decide +kernel)]; exact ⟨rfl, rfl⟩)
theorem more : Rows.roundBoundRow.moreEntering Tryz.pinned.checked.prog Tryz.f3 := OpenClaim.moreEntering_of (by kernel_rfl) (by kernel_rfl) (by kernel_rfl) (by kernel_rfl) (by kernel_rfl) (by kernel_rfl) (by kernel_rfl) (by kernel_rfl) (by kernel_rfl) (by kernel_rfl)
theorem inst : Func.isInstance Tryz.pinned.checked.prog Tryz.f3 Rows.roundBoundRow.origin Rows.roundBoundRow.targs := of_decide_eq_true (by kernel_rfl)
theorem k_w : Rows.roundBoundRow.wfByText (OpenSpec.ofChange Rows.roundBoundSpec) = true := by kernel_rfl
theorem k_mr : mapsRowed Tryz.pinned.checked.prog = true := by kernel_rfl
theorem k_tie : namedTie Tryz.pinned.checked.prog Rows.roundBoundRow.namedList (OpenSpec.ofChange Rows.roundBoundSpec).vars = true := by kernel_rfl
theorem k_fn : Tryz.pinned.checked.prog.funcNamed Rows.roundBoundRow.func = some 3 := by kernel_rfl
theorem k_r : (Tryz.f3.params.toList.all fun t => Tryz.pinned.checked.prog.readableRec t) = true := by kernel_rfl
theorem k_word : Tryz.pinned.checked.prog.envWorded = true := by kernel_rfl
theorem k_in : Rows.roundBoundRow.inPlace = Tryz.pinned.checked.prog.inPlace 3 := by kernel_rfl
theorem k_op : Rows.roundBoundRow.unfollowed = Tryz.pinned.checked.prog.unfollowed 3 := by kernel_rfl
theorem k_rc : Rows.roundBoundRow.recurses = Tryz.pinned.checked.prog.recurses 3 := by kernel_rfl
theorem k_vs : Rows.roundBoundRow.named = Tryz.pinned.checked.prog.varsNamed 3 := by kernel_rfl
theorem k_mp : Rows.roundBoundRow.maps = (Tryz.f3.params.toList ++ (OpenSpec.ofChange Rows.roundBoundSpec).bare.plain.varTypes Tryz.pinned.checked.prog).any (Tryz.pinned.checked.prog.mapsRec ·) := by kernel_rfl
theorem k_if : Rows.roundBoundRow.ifaces = (Tryz.f3.params.toList ++ (OpenSpec.ofChange Rows.roundBoundSpec).bare.plain.varTypes Tryz.pinned.checked.prog).any (Tryz.pinned.checked.prog.ifacesRec ·) := by kernel_rfl
theorem k_mo : Rows.roundBoundRow.mapsOut = Tryz.pinned.checked.prog.mapsAmong Tryz.f3.resultTypes.toList := by kernel_rfl
theorem k_lo : Rows.roundBoundRow.loops = (Tryz.f3.params.toList ++ (OpenSpec.ofChange Rows.roundBoundSpec).bare.plain.varTypes Tryz.pinned.checked.prog).any (Tryz.pinned.checked.prog.loopsFrom ·) := by kernel_rfl
theorem k_wk : Rows.roundBoundRow.wideKeys = (Tryz.f3.params.toList ++ (OpenSpec.ofChange Rows.roundBoundSpec).bare.plain.varTypes Tryz.pinned.checked.prog ++ Tryz.f3.resultTypes.toList).any (Tryz.pinned.checked.prog.wideKeysFrom ·) := by kernel_rfl
theorem k_vars : ((OpenSpec.ofChange Rows.roundBoundSpec).vars.all fun n => Tryz.pinned.checked.prog.varReadable n) = true := by kernel_rfl
theorem k_main : Tryz.pinned.checked.prog.mainIs = some ((true, "f0e754ae650a5933c58882b97d29def178d2e7389270b8aabdc6de4ba376cf7c").1, (true, "f0e754ae650a5933c58882b97d29def178d2e7389270b8aabdc6de4ba376cf7c").2.toList) := by kernel_rfl
theorem k_looks : true = Tryz.pinned.checked.prog.looks [] := by kernel_rfl
theorem k_fun : (Tryz.f3.params.toList.all fun t => !Tryz.pinned.checked.prog.wantsStandIn t) = true := by kernel_rfl
theorem k_goes : false = Rows.roundBoundRow.goesBy Tryz.pinned.checked.prog := by kernel_rfl
theorem k_vl : Rows.roundBoundRow.veiled = (Tryz.f3.params.toList ++ (OpenSpec.ofChange Rows.roundBoundSpec).bare.plain.varTypes Tryz.pinned.checked.prog ++ Tryz.f3.resultTypes.toList).any (Tryz.pinned.checked.prog.veiledRec ·) ∧ Rows.roundBoundRow.veiledFits Tryz.pinned.checked.prog Tryz.f3.params.toList (Tryz.f3.params.toList ++ (OpenSpec.ofChange Rows.roundBoundSpec).bare.plain.varTypes Tryz.pinned.checked.prog ++ Tryz.f3.resultTypes.toList) = true := ⟨by kernel_rfl, by kernel_rfl⟩
theorem card : Rows.RoundBoundToldSaid :=
  Claim7.holds_of_told_tied_any_at .later 3 Tryz.f3 "fmt.Sprintf" [] [] _ _ _ _ _ k_w rfl rfl rfl laidOut k_mr rfl ⟨rfl, rfl, rfl, rfl, rfl, rfl, rfl⟩ rfl rfl k_tie k_fn Tryz.func3 k_r
    inst wrap stops.symm rfl stopKnobs.symm k_word
    k_in k_op k_rc k_vs k_mp k_if k_mo k_lo k_wk rfl k_vars rfl rfl
    rfl rfl
    rfl k_main k_looks k_fun (by decide) k_goes roundBound_row_tie
    more
    ⟨_, WideRow.started_initial, quiet _⟩
    (fun os started _ H enc _ => lifted' os started H enc) k_vl
end LMB
theorem roundBound_holds : Rows.RoundBoundToldSaid := LMB.card
#print axioms roundBound_holds
end Go.Proofs.YtdgdbolmmkfkcaaGreatFmt
