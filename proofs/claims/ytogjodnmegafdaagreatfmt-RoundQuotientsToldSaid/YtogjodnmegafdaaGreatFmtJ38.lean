/- Walks and plain laws of this seat's functions, part 38: Q2. -/
import Derived.Test.YtogjodnmegafdaaGreatFmtJ10
import Derived.Test.YtogjodnmegafdaaGreatFmtJ35
set_option linter.unusedVariables false
set_option linter.unusedSimpArgs false
namespace Go.Proofs.YtogjodnmegafdaaGreatFmt
open Go.RowKit
attribute [local go_sem ↓] Go.wp_at_zero Go.wp_at_succ

/-! ### started -/
theorem st1 : askS 1 0 4607182418800017408 4368491638549381120 = some 4607182418800017408 := by decide +kernel
theorem st2 : askS 1 1 4607182418800017408 4368491638549381120 = some 4607182418800017409 := by decide +kernel
theorem st3 : divS 2 4607182418800017408 4613937818241073152 = some 4599676419421066581 := by decide +kernel
theorem st4 : askS 3 0 9218868437227405311 4611686018427387904 = none := by decide +kernel
theorem apifloat_calls (w : World) : Calls Tryz.prog 39 #[.int .u64 9218868437227405311] w fun e w' => e = .returned (.float .f64 9218868437227405311) ∧ w = w' := by
  go_enter Tryz.func39, Tryz.ntmps39
  go_wp2
  go_ret
  exact ⟨rfl, rfl⟩
set_option maxHeartbeats 4000000 in
set_option maxRecDepth 100000 in
theorem started_calls (w : World) : Calls Tryz.prog 13 #[] w fun e w' => e = .returned (.bool true) ∧ Below w.heap.size w w' := by
  have H1 := Lib.hid (fun W => radd_calls 0 4607182418800017408 4368491638549381120 (by decide) (by decide) W)
  have H2 := Lib.hid (fun W => radd_calls 1 4607182418800017408 4368491638549381120 (by decide) (by decide) W)
  have H3 := Lib.hid (fun W => rdiv_calls 2 4607182418800017408 4613937818241073152 (by decide) (by decide) W)
  have H4 := Lib.hid (fun W => rmul_calls 0 9218868437227405311 4611686018427387904 (by decide) (by decide) W)
  rw [st1] at H1
  rw [st2] at H2
  rw [st3] at H3
  rw [st4] at H4
  have HB1 := Lib.hid (fun W => apibits_calls 4607182418800017409 W)
  have HB2 := Lib.hid (fun W => apibits_calls 4599676419421066581 W)
  have HNU := Lib.hid (fun W => number?_calls 4607182418800017408 true W (by decide) (by decide))
  have ho : (FloatKind.f64.format.order 4607182418800017408 4607182418800017408 == some .eq) = true := by decide +kernel
  go_enter Tryz.func13, Tryz.ntmps13
  go_wp2_with fail
  refine (H1.out _).mono ?_
  rintro e w1 ⟨rfl, hW1⟩
  have HW1 := Lib.hid hW1
  clear hW1
  unfold fRet2
  go_wp2_with fail
  refine (H2.out _).mono ?_
  rintro e w2 ⟨rfl, hW2⟩
  have HW2 := Lib.hid (below_next HW1.out hW2)
  clear hW2
  unfold fRet2
  go_wp2_with fail
  refine (H3.out _).mono ?_
  rintro e w3 ⟨rfl, hW3⟩
  have HW3 := Lib.hid (below_next HW2.out hW3)
  clear hW3
  unfold fRet2
  go_wp2_with fail
  refine (apifloat_calls _).mono ?_
  rintro e w' ⟨rfl, rfl⟩
  go_wp2_with fail
  refine (H4.out _).mono ?_
  rintro e w4 ⟨rfl, hW4⟩
  have HW4 := Lib.hid (below_next HW3.out hW4)
  clear hW4
  unfold fRet2
  go_wp2_with fail
  refine (HB1.out _).mono ?_
  rintro e w' ⟨rfl, rfl⟩
  go_wp2_with fail
  refine (HB2.out _).mono ?_
  rintro e w' ⟨rfl, rfl⟩
  go_wp2_with fail
  refine (HNU.out _).mono ?_
  rintro e w' ⟨rfl, rfl⟩
  go_wp2
  go_ret
  exact ⟨rfl, HW4.out⟩
end Go.Proofs.YtogjodnmegafdaaGreatFmt
