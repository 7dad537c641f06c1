import Derived.Test.YtikdhkmcdmnadaaGreatFmtKLM4A
import Derived.Test.YtikdhkmcdmnadaaGreatFmtKLM4F
set_option linter.unusedVariables false
set_option linter.unusedSimpArgs false
namespace Go.Proofs.YtikdhkmcdmnadaaGreatFmt
namespace LM4R
open Go.ChangeShapes Go.WideShapes Go.ChangeAt Go.RowKit
open Go.Extern.Stop Go.Stop Go.Extern
theorem card : Rows.SpanMakesToldSaid :=
  Claim7.holds_of_told_tied_any_at .later 3 Tryz.f3 "fmt.Sprintf" [] [] _ _ _ _ _ k_w rfl rfl rfl laidOut k_mr rfl ⟨rfl, rfl, rfl, rfl, rfl, rfl, rfl⟩ rfl rfl k_tie k_fn Tryz.func3 k_r
    inst wrap stops.symm rfl stopKnobs.symm k_word
    k_in k_op k_rc k_vs k_mp k_if k_mo k_lo k_wk rfl k_vars rfl rfl
    rfl rfl
    rfl k_main k_looks k_fun (by decide) k_goes spanMakes_row_tie
    more
    ⟨_, WideRow.started_initial, quiet _⟩
    (fun os started _ H enc _ => lifted' os started H enc) k_vl
end LM4R
theorem spanMakes_holds : Rows.SpanMakesToldSaid := LM4R.card
#print axioms spanMakes_holds
end Go.Proofs.YtikdhkmcdmnadaaGreatFmt
