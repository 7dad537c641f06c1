/- Walks and plain laws of this seat's functions, part 31: Q1. -/
import Derived.Test.YtogjodnmegafdaaGreatFmtBesafterJ02
import Derived.Test.YtogjodnmegafdaaGreatFmtBesafterJ05
import Derived.Test.YtogjodnmegafdaaGreatFmtBesafterJ29
import Derived.Test.YtogjodnmegafdaaGreatFmtBesafterJ30
set_option linter.unusedVariables false
set_option linter.unusedSimpArgs false
namespace Go.Proofs.YtogjodnmegafdaaGreatFmtBesafter
open Go.RowKit
attribute [local go_sem ↓] Go.wp_at_zero Go.wp_at_succ

/-! ### the law's own: num, asked -/
theorem asked_calls (c d : Int) (u v : Nat) (hu : u < 18446744073709551616) (hv : v < 18446744073709551616) (hc : c = 1 ∨ c = 2 ∨ c = 3) (w : World) :
    Calls Tryz.prog 4 #[.int .i64 c, .int .i64 d, .float .f64 u, .float .f64 v] w fun e w' => e = fRet2 (askS c d u v) ∧ Below w.heap.size w w' := by
  have HA := Lib.hid (fun W => radd_calls d u v hu hv W)
  have HS := Lib.hid (fun W => rsub_calls d u v hu hv W)
  have HM := Lib.hid (fun W => rmul_calls d u v hu hv W)
  clear hu hv
  rcases hc with rfl | rfl | rfl
  · go_enter Tryz.func4, Tryz.ntmps4
    go_wp2_with fail
    refine (HA.out _).mono ?_
    rintro e w' ⟨rfl, hW⟩
    have HW := Lib.hid hW
    clear hW
    unfold fRet2
    go_wp2
    go_ret2
    exact ⟨rfl, HW.out⟩
  · go_enter Tryz.func4, Tryz.ntmps4
    go_wp2_with fail
    refine (HS.out _).mono ?_
    rintro e w' ⟨rfl, hW⟩
    have HW := Lib.hid hW
    clear hW
    unfold fRet2
    go_wp2
    go_ret2
    exact ⟨rfl, HW.out⟩
  · go_enter Tryz.func4, Tryz.ntmps4
    go_wp2_with fail
    refine (HM.out _).mono ?_
    rintro e w' ⟨rfl, hW⟩
    have HW := Lib.hid hW
    clear hW
    unfold fRet2
    go_wp2
    go_ret2
    exact ⟨rfl, HW.out⟩
end Go.Proofs.YtogjodnmegafdaaGreatFmtBesafter
