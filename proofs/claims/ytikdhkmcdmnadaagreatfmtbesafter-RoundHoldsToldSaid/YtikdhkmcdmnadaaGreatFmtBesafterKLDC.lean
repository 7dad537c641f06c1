import Derived.Test.YtikdhkmcdmnadaaGreatFmtBesafterKLDA
import Derived.Test.YtikdhkmcdmnadaaGreatFmtBesafterKLDF
set_option linter.unusedVariables false
set_option linter.unusedSimpArgs false
namespace Go.Proofs.YtikdhkmcdmnadaaGreatFmtBesafter
namespace LDR
open Go.ChangeShapes Go.WideShapes Go.ChangeAt Go.RowKit
open Go.Extern.Stop Go.Stop Go.Extern
theorem card : Rows.RoundHoldsToldSaid :=
  Claim7.holds_of_told_tied_any_at .later 3 Tryz.f3 "fmt.Sprintf" [] [] _ _ _ _ _ k_w rfl rfl rfl laidOut k_mr rfl ⟨rfl, rfl, rfl, rfl, rfl, rfl, rfl⟩ rfl rfl k_tie k_fn Tryz.func3 k_r
    inst wrap stops.symm rfl stopKnobs.symm k_word
    k_in k_op k_rc k_vs k_mp k_if k_mo k_lo k_wk rfl k_vars rfl rfl
    rfl rfl
    rfl k_main k_looks k_fun (by decide) k_goes roundHolds_row_tie
    more
    ⟨_, WideRow.started_initial, quiet _⟩
    (fun os started _ H enc _ => lifted' os started H enc) k_vl
end LDR
theorem roundHolds_holds : Rows.RoundHoldsToldSaid := LDR.card
#print axioms roundHolds_holds
end Go.Proofs.YtikdhkmcdmnadaaGreatFmtBesafter
