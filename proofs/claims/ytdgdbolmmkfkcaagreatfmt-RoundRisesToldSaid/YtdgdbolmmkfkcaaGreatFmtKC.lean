/- RoundRises (2.8): for every direction, any two call numbers and any four bit patterns of float64 the law answers true: of two exact sums, differences or products the lesser one has no greater number, told in one direction. Conditions: none beyond the card's own (the listed tables of Go's library start as their text lays them; fmt's text is told by the authors' function; this road reads neither). -/
import Derived.Test.YtdgdbolmmkfkcaaGreatFmtKA
import Derived.Test.YtdgdbolmmkfkcaaGreatFmtKF
namespace Go.Proofs.YtdgdbolmmkfkcaaGreatFmt
namespace LMR
open Go.ChangeShapes Go.WideShapes Go.ChangeAt Go.RowKit
open Go.Extern.Stop Go.Stop Go.Extern
/- each closed fact by itself: together they fill the kernel's memory -/
theorem card : Rows.RoundRisesToldSaid :=
  Claim7.holds_of_told_tied_any_at .later 4 Tryz.f4 "fmt.Sprintf" [] [] _ _ _ _ _ k_w rfl rfl rfl laidOut k_mr rfl ⟨rfl, rfl, rfl, rfl, rfl, rfl, rfl⟩ rfl rfl k_tie k_fn Tryz.func4 k_r
    inst wrap stops.symm rfl stopKnobs.symm k_word
    k_in k_op k_rc k_vs k_mp k_if k_mo k_lo k_wk rfl k_vars rfl rfl
    rfl rfl
    rfl k_main k_looks k_fun (by decide) k_goes roundRises_row_tie
    more
    ⟨_, WideRow.started_initial, quiet _⟩
    (fun os started _ H enc _ => lifted' os started H enc) k_vl
end LMR
theorem roundRises_holds : Rows.RoundRisesToldSaid := LMR.card
#print axioms roundRises_holds
end Go.Proofs.YtdgdbolmmkfkcaaGreatFmt
