/- Walks and plain laws of this seat's functions, part 13: S4 S5 S6. -/
import Derived.Test.YtfgdmiigmcnmpaaGreatFmtJ11
import Derived.Test.YtfgdmiigmcnmpaaGreatFmtJ12
set_option linter.unusedVariables false
set_option linter.unusedSimpArgs false
namespace Go.Proofs.YtfgdmiigmcnmpaaGreatFmt
open Go.RowKit

/-! ### math.Nextafter towards an infinity, and side -/
theorem isnan_word (neg : Bool) (r : Nat) (hr : r ≤ INFR) (w : World) : Calls Tryz.prog 74 #[.float .f64 (wordR neg r)] w fun e w' => e = .returned (.bool false) ∧ w = w' := by
  refine isnan_calls _ false w ?_
  show (Ieee.double.order (wordR neg r) (wordR neg r) != some .eq) = false
  rw [order_word hr hr, Int.compare_eq_eq.2 rfl]; rfl
abbrev infW (up : Bool) : Nat := if up then 9218868437227405312 else 18442240474082181120
theorem infW_eq (up : Bool) : infW up = wordR (!up) INFR := by cases up <;> rfl
set_option maxHeartbeats 1000000 in
theorem copysign_one (up : Bool) (w : World) : Calls Tryz.prog 77 #[.float .f64 1, .float .f64 (infW up)] w fun e w' => e = .returned (.float .f64 (wordR (!up) 1)) ∧ w = w' := by
  have b1 : bits .andNot .u64 1 9223372036854775808 = 1 := by decide
  have b2 : bits .and .u64 9218868437227405312 9223372036854775808 = 0 := by decide
  have b3 : bits .and .u64 18442240474082181120 9223372036854775808 = 9223372036854775808 := by decide
  have b4 : bits .or .u64 1 0 = 1 := by decide
  have b5 : bits .or .u64 1 9223372036854775808 = 9223372036854775809 := by decide
  cases up
  all_goals (
    go_enter Tryz.func77, Tryz.ntmps77
    go_wp2
    go_ret
    exact ⟨rfl, rfl⟩)
def nextR (up neg : Bool) (r : Nat) : Bool × Nat := if up then upR neg r else downR neg r
set_option maxHeartbeats 1000000 in
set_option maxRecDepth 100000 in
theorem nextafter_up_zero (w : World) : Calls Tryz.prog 38 #[.float .f64 (wordR false 0), .float .f64 9218868437227405312] w fun e w' => e = .returned (.float .f64 (wordR (nextR true false 0).1 (nextR true false 0).2)) ∧ w = w' := by
  have H1 := Lib.hid (fun W => isnan_word false 0 (by decide) W)
  have H2 := Lib.hid (fun W => isnan_word false INFR (by decide) W)
  have H3 := Lib.hid (fun W => copysign_one true W)
  have c1 : (FloatKind.f64.format.order (wordR false 0) 9218868437227405312 == some .eq) = false := by
    show (Ieee.double.order (wordR false 0) (wordR false INFR) == some .eq) = false
    rw [order_word (by decide) (by decide), Int.compare_eq_lt.2 (by decide)]; try rfl
  have c2 : (FloatKind.f64.format.order (wordR false 0) 0 == some .eq) = true := by
    show (Ieee.double.order (wordR false 0) (wordR false 0) == some .eq) = true
    rw [order_word (by decide) (by decide), Int.compare_eq_eq.2 (by decide)]; try rfl
  obtain ⟨u, hu⟩ : ∃ u, wordR false 0 = u := ⟨_, rfl⟩
  rw [hu] at H1 c1 c2 ⊢
  clear hu
  go_enter Tryz.func38, Tryz.ntmps38
  go_wp2_with fail
  refine (H1.out _).mono ?_
  rintro e w' ⟨rfl, rfl⟩
  go_wp2_with fail
  refine (H2.out _).mono ?_
  rintro e w' ⟨rfl, rfl⟩
  go_wp2_with fail
  refine (H3.out _).mono ?_
  rintro e w' ⟨rfl, rfl⟩
  go_wp2
  go_ret
  exact ⟨rfl, rfl⟩
set_option maxHeartbeats 1000000 in
set_option maxRecDepth 100000 in
theorem nextafter_up_inf (w : World) : Calls Tryz.prog 38 #[.float .f64 (wordR false INFR), .float .f64 9218868437227405312] w fun e w' => e = .returned (.float .f64 (wordR (nextR true false INFR).1 (nextR true false INFR).2)) ∧ w = w' := by
  have H1 := Lib.hid (fun W => isnan_word false INFR (by decide) W)
  have H2 := Lib.hid (fun W => isnan_word false INFR (by decide) W)
  have c1 : (FloatKind.f64.format.order (wordR false INFR) 9218868437227405312 == some .eq) = true := by
    show (Ieee.double.order (wordR false INFR) (wordR false INFR) == some .eq) = true
    rw [order_word (by decide) (by decide), Int.compare_eq_eq.2 (by decide)]; try rfl
  obtain ⟨u, hu⟩ : ∃ u, wordR false INFR = u := ⟨_, rfl⟩
  rw [hu] at H1 c1 ⊢
  have HR : Hid (wordR (nextR true false INFR).1 (nextR true false INFR).2 = u) := by rw [Hid, ← hu]; simp [nextR, upR, downR, wordR]
  clear hu
  go_enter Tryz.func38, Tryz.ntmps38
  go_wp2_with fail
  refine (H1.out _).mono ?_
  rintro e w' ⟨rfl, rfl⟩
  go_wp2_with fail
  refine (H2.out _).mono ?_
  rintro e w' ⟨rfl, rfl⟩
  go_wp2
  go_ret
  exact ⟨by rw [HR.out]; rfl, rfl⟩
set_option maxHeartbeats 1000000 in
set_option maxRecDepth 100000 in
theorem nextafter_up_mid (r : Nat) (h0 : 0 < r) (hr : r < INFR) (w : World) : Calls Tryz.prog 38 #[.float .f64 (wordR false r), .float .f64 9218868437227405312] w fun e w' => e = .returned (.float .f64 (wordR (nextR true false r).1 (nextR true false r).2)) ∧ w = w' := by
  have H1 := Lib.hid (fun W => isnan_word false r (Nat.le_of_lt hr) W)
  have H2 := Lib.hid (fun W => isnan_word false INFR (by decide) W)
  have c1 : (FloatKind.f64.format.order (wordR false r) 9218868437227405312 == some .eq) = false := by
    show (Ieee.double.order (wordR false r) (wordR false INFR) == some .eq) = false
    rw [order_word (Nat.le_of_lt hr) (by decide), Int.compare_eq_lt.2 (by simp only [sval, INFR, if_true, if_false, Bool.false_eq_true] at *; omega)]; try rfl
  have c2 : (FloatKind.f64.format.order (wordR false r) 0 == some .eq) = false := by
    show (Ieee.double.order (wordR false r) (wordR false 0) == some .eq) = false
    rw [order_word (Nat.le_of_lt hr) (by decide), Int.compare_eq_gt.2 (by simp only [sval, INFR, if_true, if_false, Bool.false_eq_true] at *; omega)]; try rfl
  have c3 : (FloatKind.f64.format.order 9218868437227405312 (wordR false r) == some .gt) = true := by
    show (Ieee.double.order (wordR false INFR) (wordR false r) == some .gt) = true
    rw [order_word (by decide) (Nat.le_of_lt hr), Int.compare_eq_gt.2 (by simp only [sval, INFR, if_true, if_false, Bool.false_eq_true] at *; omega)]; try rfl
  have c4 : (FloatKind.f64.format.order (wordR false r) 0 == some .gt) = true := by
    show (Ieee.double.order (wordR false r) (wordR false 0) == some .gt) = true
    rw [order_word (Nat.le_of_lt hr) (by decide), Int.compare_eq_gt.2 (by simp only [sval, INFR, if_true, if_false, Bool.false_eq_true] at *; omega)]; try rfl
  obtain ⟨u, hu⟩ : ∃ u, wordR false r = u := ⟨_, rfl⟩
  rw [hu] at H1 c1 c2 c3 c4 ⊢
  have hne0 : r ≠ 0 := by omega
  have hneI : r ≠ INFR := by omega
  have hu2 : u = r := by rw [← hu]; rfl
  have hr2 : r < 9218868437227405312 := hr
  have hb : (u : Int) + 1 ≤ 18446744073709551615 ∧ (0 : Int) ≤ (u : Int) := by omega
  have HN : (nextR true false r) = (false, r + 1) := by simp [nextR, upR, downR, hne0, hneI]
  have HR : Hid (wordR (nextR true false r).1 (nextR true false r).2 = u + 1) := by
    rw [Hid, HN, hu2]
    show r + 1 = r + 1
    omega
  clear hu2 hr2 HN
  clear hne0 hneI
  clear hu h0 hr
  go_enter Tryz.func38, Tryz.ntmps38
  go_wp2_with fail
  refine (H1.out _).mono ?_
  rintro e w' ⟨rfl, rfl⟩
  go_wp2_with fail
  refine (H2.out _).mono ?_
  rintro e w' ⟨rfl, rfl⟩
  go_wp2
  go_ret
  exact ⟨by rw [HR.out]; rfl, rfl⟩
set_option maxHeartbeats 1000000 in
set_option maxRecDepth 100000 in
theorem nextafter_un_zero (w : World) : Calls Tryz.prog 38 #[.float .f64 (wordR true 0), .float .f64 9218868437227405312] w fun e w' => e = .returned (.float .f64 (wordR (nextR true true 0).1 (nextR true true 0).2)) ∧ w = w' := by
  have H1 := Lib.hid (fun W => isnan_word true 0 (by decide) W)
  have H2 := Lib.hid (fun W => isnan_word false INFR (by decide) W)
  have H3 := Lib.hid (fun W => copysign_one true W)
  have c1 : (FloatKind.f64.format.order (wordR true 0) 9218868437227405312 == some .eq) = false := by
    show (Ieee.double.order (wordR true 0) (wordR false INFR) == some .eq) = false
    rw [order_word (by decide) (by decide), Int.compare_eq_lt.2 (by decide)]; try rfl
  have c2 : (FloatKind.f64.format.order (wordR true 0) 0 == some .eq) = true := by
    show (Ieee.double.order (wordR true 0) (wordR false 0) == some .eq) = true
    rw [order_word (by decide) (by decide), Int.compare_eq_eq.2 (by decide)]; try rfl
  obtain ⟨u, hu⟩ : ∃ u, wordR true 0 = u := ⟨_, rfl⟩
  rw [hu] at H1 c1 c2 ⊢
  clear hu
  go_enter Tryz.func38, Tryz.ntmps38
  go_wp2_with fail
  refine (H1.out _).mono ?_
  rintro e w' ⟨rfl, rfl⟩
  go_wp2_with fail
  refine (H2.out _).mono ?_
  rintro e w' ⟨rfl, rfl⟩
  go_wp2_with fail
  refine (H3.out _).mono ?_
  rintro e w' ⟨rfl, rfl⟩
  go_wp2
  go_ret
  exact ⟨rfl, rfl⟩
set_option maxHeartbeats 1000000 in
set_option maxRecDepth 100000 in
theorem nextafter_un_inf (w : World) : Calls Tryz.prog 38 #[.float .f64 (wordR true INFR), .float .f64 9218868437227405312] w fun e w' => e = .returned (.float .f64 (wordR (nextR true true INFR).1 (nextR true true INFR).2)) ∧ w = w' := by
  have H1 := Lib.hid (fun W => isnan_word true INFR (by decide) W)
  have H2 := Lib.hid (fun W => isnan_word false INFR (by decide) W)
  have c1 : (FloatKind.f64.format.order (wordR true INFR) 9218868437227405312 == some .eq) = false := by
    show (Ieee.double.order (wordR true INFR) (wordR false INFR) == some .eq) = false
    rw [order_word (by decide) (by decide), Int.compare_eq_lt.2 (by decide)]; try rfl
  have c2 : (FloatKind.f64.format.order (wordR true INFR) 0 == some .eq) = false := by
    show (Ieee.double.order (wordR true INFR) (wordR false 0) == some .eq) = false
    rw [order_word (by decide) (by decide), Int.compare_eq_lt.2 (by decide)]; try rfl
  have c3 : (FloatKind.f64.format.order 9218868437227405312 (wordR true INFR) == some .gt) = true := by
    show (Ieee.double.order (wordR false INFR) (wordR true INFR) == some .gt) = true
    rw [order_word (by decide) (by decide), Int.compare_eq_gt.2 (by decide)]; try rfl
  have c4 : (FloatKind.f64.format.order (wordR true INFR) 0 == some .gt) = false := by
    show (Ieee.double.order (wordR true INFR) (wordR false 0) == some .gt) = false
    rw [order_word (by decide) (by decide), Int.compare_eq_lt.2 (by decide)]; try rfl
  obtain ⟨u, hu⟩ : ∃ u, wordR true INFR = u := ⟨_, rfl⟩
  rw [hu] at H1 c1 c2 c3 c4 ⊢
  have hb : (0 : Int) ≤ (u : Int) - 1 ∧ (u : Int) ≤ 18446744073709551615 := by rw [← hu]; simp [wordR, INFR]
  have HR : Hid (wordR (nextR true true INFR).1 (nextR true true INFR).2 = u - 1) := by rw [Hid, ← hu]; simp [nextR, upR, downR, wordR, INFR]
  have hm1 : (u : Int) - 1 = ((u - 1 : Nat) : Int) := by omega
  clear hu
  go_enter Tryz.func38, Tryz.ntmps38
  go_wp2_with fail
  refine (H1.out _).mono ?_
  rintro e w' ⟨rfl, rfl⟩
  go_wp2_with fail
  refine (H2.out _).mono ?_
  rintro e w' ⟨rfl, rfl⟩
  go_wp2
  go_ret
  exact ⟨by rw [HR.out]; rfl, rfl⟩
set_option maxHeartbeats 1000000 in
set_option maxRecDepth 100000 in
theorem nextafter_un_mid (r : Nat) (h0 : 0 < r) (hr : r < INFR) (w : World) : Calls Tryz.prog 38 #[.float .f64 (wordR true r), .float .f64 9218868437227405312] w fun e w' => e = .returned (.float .f64 (wordR (nextR true true r).1 (nextR true true r).2)) ∧ w = w' := by
  have H1 := Lib.hid (fun W => isnan_word true r (Nat.le_of_lt hr) W)
  have H2 := Lib.hid (fun W => isnan_word false INFR (by decide) W)
  have c1 : (FloatKind.f64.format.order (wordR true r) 9218868437227405312 == some .eq) = false := by
    show (Ieee.double.order (wordR true r) (wordR false INFR) == some .eq) = false
    rw [order_word (Nat.le_of_lt hr) (by decide), Int.compare_eq_lt.2 (by simp only [sval, INFR, if_true, if_false, Bool.false_eq_true] at *; omega)]; try rfl
  have c2 : (FloatKind.f64.format.order (wordR true r) 0 == some .eq) = false := by
    show (Ieee.double.order (wordR true r) (wordR false 0) == some .eq) = false
    rw [order_word (Nat.le_of_lt hr) (by decide), Int.compare_eq_lt.2 (by simp only [sval, INFR, if_true, if_false, Bool.false_eq_true] at *; omega)]; try rfl
  have c3 : (FloatKind.f64.format.order 9218868437227405312 (wordR true r) == some .gt) = true := by
    show (Ieee.double.order (wordR false INFR) (wordR true r) == some .gt) = true
    rw [order_word (by decide) (Nat.le_of_lt hr), Int.compare_eq_gt.2 (by simp only [sval, INFR, if_true, if_false, Bool.false_eq_true] at *; omega)]; try rfl
  have c4 : (FloatKind.f64.format.order (wordR true r) 0 == some .gt) = false := by
    show (Ieee.double.order (wordR true r) (wordR false 0) == some .gt) = false
    rw [order_word (Nat.le_of_lt hr) (by decide), Int.compare_eq_lt.2 (by simp only [sval, INFR, if_true, if_false, Bool.false_eq_true] at *; omega)]; try rfl
  obtain ⟨u, hu⟩ : ∃ u, wordR true r = u := ⟨_, rfl⟩
  rw [hu] at H1 c1 c2 c3 c4 ⊢
  have hne0 : r ≠ 0 := by omega
  have hneI : r ≠ INFR := by omega
  have hu2 : u = r + 9223372036854775808 := by rw [← hu]; rfl
  have hr2 : r < 9218868437227405312 := hr
  have hb : (0 : Int) ≤ (u : Int) - 1 ∧ (u : Int) ≤ 18446744073709551615 := by omega
  have HN : (nextR true true r) = (true, r - 1) := by simp [nextR, upR, downR, hne0, hneI]
  have HR : Hid (wordR (nextR true true r).1 (nextR true true r).2 = u - 1) := by
    rw [Hid, HN, hu2]
    show r - 1 + 9223372036854775808 = r + 9223372036854775808 - 1
    omega
  have hm1 : (u : Int) - 1 = ((u - 1 : Nat) : Int) := by omega
  clear hu2 hr2 HN
  clear hne0 hneI
  clear hu h0 hr
  go_enter Tryz.func38, Tryz.ntmps38
  go_wp2_with fail
  refine (H1.out _).mono ?_
  rintro e w' ⟨rfl, rfl⟩
  go_wp2_with fail
  refine (H2.out _).mono ?_
  rintro e w' ⟨rfl, rfl⟩
  go_wp2
  go_ret
  exact ⟨by rw [HR.out]; rfl, rfl⟩
set_option maxHeartbeats 1000000 in
set_option maxRecDepth 100000 in
theorem nextafter_dp_zero (w : World) : Calls Tryz.prog 38 #[.float .f64 (wordR false 0), .float .f64 18442240474082181120] w fun e w' => e = .returned (.float .f64 (wordR (nextR false false 0).1 (nextR false false 0).2)) ∧ w = w' := by
  have H1 := Lib.hid (fun W => isnan_word false 0 (by decide) W)
  have H2 := Lib.hid (fun W => isnan_word true INFR (by decide) W)
  have H3 := Lib.hid (fun W => copysign_one false W)
  have c1 : (FloatKind.f64.format.order (wordR false 0) 18442240474082181120 == some .eq) = false := by
    show (Ieee.double.order (wordR false 0) (wordR true INFR) == some .eq) = false
    rw [order_word (by decide) (by decide), Int.compare_eq_gt.2 (by decide)]; try rfl
  have c2 : (FloatKind.f64.format.order (wordR false 0) 0 == some .eq) = true := by
    show (Ieee.double.order (wordR false 0) (wordR false 0) == some .eq) = true
    rw [order_word (by decide) (by decide), Int.compare_eq_eq.2 (by decide)]; try rfl
  obtain ⟨u, hu⟩ : ∃ u, wordR false 0 = u := ⟨_, rfl⟩
  rw [hu] at H1 c1 c2 ⊢
  clear hu
  go_enter Tryz.func38, Tryz.ntmps38
  go_wp2_with fail
  refine (H1.out _).mono ?_
  rintro e w' ⟨rfl, rfl⟩
  go_wp2_with fail
  refine (H2.out _).mono ?_
  rintro e w' ⟨rfl, rfl⟩
  go_wp2_with fail
  refine (H3.out _).mono ?_
  rintro e w' ⟨rfl, rfl⟩
  go_wp2
  go_ret
  exact ⟨rfl, rfl⟩
set_option maxHeartbeats 1000000 in
set_option maxRecDepth 100000 in
theorem nextafter_dp_inf (w : World) : Calls Tryz.prog 38 #[.float .f64 (wordR false INFR), .float .f64 18442240474082181120] w fun e w' => e = .returned (.float .f64 (wordR (nextR false false INFR).1 (nextR false false INFR).2)) ∧ w = w' := by
  have H1 := Lib.hid (fun W => isnan_word false INFR (by decide) W)
  have H2 := Lib.hid (fun W => isnan_word true INFR (by decide) W)
  have c1 : (FloatKind.f64.format.order (wordR false INFR) 18442240474082181120 == some .eq) = false := by
    show (Ieee.double.order (wordR false INFR) (wordR true INFR) == some .eq) = false
    rw [order_word (by decide) (by decide), Int.compare_eq_gt.2 (by decide)]; try rfl
  have c2 : (FloatKind.f64.format.order (wordR false INFR) 0 == some .eq) = false := by
    show (Ieee.double.order (wordR false INFR) (wordR false 0) == some .eq) = false
    rw [order_word (by decide) (by decide), Int.compare_eq_gt.2 (by decide)]; try rfl
  have c3 : (FloatKind.f64.format.order 18442240474082181120 (wordR false INFR) == some .gt) = false := by
    show (Ieee.double.order (wordR true INFR) (wordR false INFR) == some .gt) = false
    rw [order_word (by decide) (by decide), Int.compare_eq_lt.2 (by decide)]; try rfl
  have c4 : (FloatKind.f64.format.order (wordR false INFR) 0 == some .gt) = true := by
    show (Ieee.double.order (wordR false INFR) (wordR false 0) == some .gt) = true
    rw [order_word (by decide) (by decide), Int.compare_eq_gt.2 (by decide)]; try rfl
  obtain ⟨u, hu⟩ : ∃ u, wordR false INFR = u := ⟨_, rfl⟩
  rw [hu] at H1 c1 c2 c3 c4 ⊢
  have hb : (0 : Int) ≤ (u : Int) - 1 ∧ (u : Int) ≤ 18446744073709551615 := by rw [← hu]; simp [wordR, INFR]
  have HR : Hid (wordR (nextR false false INFR).1 (nextR false false INFR).2 = u - 1) := by rw [Hid, ← hu]; simp [nextR, upR, downR, wordR, INFR]
  have hm1 : (u : Int) - 1 = ((u - 1 : Nat) : Int) := by omega
  clear hu
  go_enter Tryz.func38, Tryz.ntmps38
  go_wp2_with fail
  refine (H1.out _).mono ?_
  rintro e w' ⟨rfl, rfl⟩
  go_wp2_with fail
  refine (H2.out _).mono ?_
  rintro e w' ⟨rfl, rfl⟩
  go_wp2
  go_ret
  exact ⟨by rw [HR.out]; rfl, rfl⟩
set_option maxHeartbeats 1000000 in
set_option maxRecDepth 100000 in
theorem nextafter_dp_mid (r : Nat) (h0 : 0 < r) (hr : r < INFR) (w : World) : Calls Tryz.prog 38 #[.float .f64 (wordR false r), .float .f64 18442240474082181120] w fun e w' => e = .returned (.float .f64 (wordR (nextR false false r).1 (nextR false false r).2)) ∧ w = w' := by
  have H1 := Lib.hid (fun W => isnan_word false r (Nat.le_of_lt hr) W)
  have H2 := Lib.hid (fun W => isnan_word true INFR (by decide) W)
  have c1 : (FloatKind.f64.format.order (wordR false r) 18442240474082181120 == some .eq) = false := by
    show (Ieee.double.order (wordR false r) (wordR true INFR) == some .eq) = false
    rw [order_word (Nat.le_of_lt hr) (by decide), Int.compare_eq_gt.2 (by simp only [sval, INFR, if_true, if_false, Bool.false_eq_true] at *; omega)]; try rfl
  have c2 : (FloatKind.f64.format.order (wordR false r) 0 == some .eq) = false := by
    show (Ieee.double.order (wordR false r) (wordR false 0) == some .eq) = false
    rw [order_word (Nat.le_of_lt hr) (by decide), Int.compare_eq_gt.2 (by simp only [sval, INFR, if_true, if_false, Bool.false_eq_true] at *; omega)]; try rfl
  have c3 : (FloatKind.f64.format.order 18442240474082181120 (wordR false r) == some .gt) = false := by
    show (Ieee.double.order (wordR true INFR) (wordR false r) == some .gt) = false
    rw [order_word (by decide) (Nat.le_of_lt hr), Int.compare_eq_lt.2 (by simp only [sval, INFR, if_true, if_false, Bool.false_eq_true] at *; omega)]; try rfl
  have c4 : (FloatKind.f64.format.order (wordR false r) 0 == some .gt) = true := by
    show (Ieee.double.order (wordR false r) (wordR false 0) == some .gt) = true
    rw [order_word (Nat.le_of_lt hr) (by decide), Int.compare_eq_gt.2 (by simp only [sval, INFR, if_true, if_false, Bool.false_eq_true] at *; omega)]; try rfl
  obtain ⟨u, hu⟩ : ∃ u, wordR false r = u := ⟨_, rfl⟩
  rw [hu] at H1 c1 c2 c3 c4 ⊢
  have hne0 : r ≠ 0 := by omega
  have hneI : r ≠ INFR := by omega
  have hu2 : u = r := by rw [← hu]; rfl
  have hr2 : r < 9218868437227405312 := hr
  have hb : (0 : Int) ≤ (u : Int) - 1 ∧ (u : Int) ≤ 18446744073709551615 := by omega
  have HN : (nextR false false r) = (false, r - 1) := by simp [nextR, upR, downR, hne0, hneI]
  have HR : Hid (wordR (nextR false false r).1 (nextR false false r).2 = u - 1) := by
    rw [Hid, HN, hu2]
    show r - 1 = r - 1
    omega
  have hm1 : (u : Int) - 1 = ((u - 1 : Nat) : Int) := by omega
  clear hu2 hr2 HN
  clear hne0 hneI
  clear hu h0 hr
  go_enter Tryz.func38, Tryz.ntmps38
  go_wp2_with fail
  refine (H1.out _).mono ?_
  rintro e w' ⟨rfl, rfl⟩
  go_wp2_with fail
  refine (H2.out _).mono ?_
  rintro e w' ⟨rfl, rfl⟩
  go_wp2
  go_ret
  exact ⟨by rw [HR.out]; rfl, rfl⟩
set_option maxHeartbeats 1000000 in
set_option maxRecDepth 100000 in
theorem nextafter_dn_zero (w : World) : Calls Tryz.prog 38 #[.float .f64 (wordR true 0), .float .f64 18442240474082181120] w fun e w' => e = .returned (.float .f64 (wordR (nextR false true 0).1 (nextR false true 0).2)) ∧ w = w' := by
  have H1 := Lib.hid (fun W => isnan_word true 0 (by decide) W)
  have H2 := Lib.hid (fun W => isnan_word true INFR (by decide) W)
  have H3 := Lib.hid (fun W => copysign_one false W)
  have c1 : (FloatKind.f64.format.order (wordR true 0) 18442240474082181120 == some .eq) = false := by
    show (Ieee.double.order (wordR true 0) (wordR true INFR) == some .eq) = false
    rw [order_word (by decide) (by decide), Int.compare_eq_gt.2 (by decide)]; try rfl
  have c2 : (FloatKind.f64.format.order (wordR true 0) 0 == some .eq) = true := by
    show (Ieee.double.order (wordR true 0) (wordR false 0) == some .eq) = true
    rw [order_word (by decide) (by decide), Int.compare_eq_eq.2 (by decide)]; try rfl
  obtain ⟨u, hu⟩ : ∃ u, wordR true 0 = u := ⟨_, rfl⟩
  rw [hu] at H1 c1 c2 ⊢
  clear hu
  go_enter Tryz.func38, Tryz.ntmps38
  go_wp2_with fail
  refine (H1.out _).mono ?_
  rintro e w' ⟨rfl, rfl⟩
  go_wp2_with fail
  refine (H2.out _).mono ?_
  rintro e w' ⟨rfl, rfl⟩
  go_wp2_with fail
  refine (H3.out _).mono ?_
  rintro e w' ⟨rfl, rfl⟩
  go_wp2
  go_ret
  exact ⟨rfl, rfl⟩
set_option maxHeartbeats 1000000 in
set_option maxRecDepth 100000 in
theorem nextafter_dn_inf (w : World) : Calls Tryz.prog 38 #[.float .f64 (wordR true INFR), .float .f64 18442240474082181120] w fun e w' => e = .returned (.float .f64 (wordR (nextR false true INFR).1 (nextR false true INFR).2)) ∧ w = w' := by
  have H1 := Lib.hid (fun W => isnan_word true INFR (by decide) W)
  have H2 := Lib.hid (fun W => isnan_word true INFR (by decide) W)
  have c1 : (FloatKind.f64.format.order (wordR true INFR) 18442240474082181120 == some .eq) = true := by
    show (Ieee.double.order (wordR true INFR) (wordR true INFR) == some .eq) = true
    rw [order_word (by decide) (by decide), Int.compare_eq_eq.2 (by decide)]; try rfl
  obtain ⟨u, hu⟩ : ∃ u, wordR true INFR = u := ⟨_, rfl⟩
  rw [hu] at H1 c1 ⊢
  have HR : Hid (wordR (nextR false true INFR).1 (nextR false true INFR).2 = u) := by rw [Hid, ← hu]; simp [nextR, upR, downR, wordR]
  clear hu
  go_enter Tryz.func38, Tryz.ntmps38
  go_wp2_with fail
  refine (H1.out _).mono ?_
  rintro e w' ⟨rfl, rfl⟩
  go_wp2_with fail
  refine (H2.out _).mono ?_
  rintro e w' ⟨rfl, rfl⟩
  go_wp2
  go_ret
  exact ⟨by rw [HR.out]; rfl, rfl⟩
set_option maxHeartbeats 1000000 in
set_option maxRecDepth 100000 in
theorem nextafter_dn_mid (r : Nat) (h0 : 0 < r) (hr : r < INFR) (w : World) : Calls Tryz.prog 38 #[.float .f64 (wordR true r), .float .f64 18442240474082181120] w fun e w' => e = .returned (.float .f64 (wordR (nextR false true r).1 (nextR false true r).2)) ∧ w = w' := by
  have H1 := Lib.hid (fun W => isnan_word true r (Nat.le_of_lt hr) W)
  have H2 := Lib.hid (fun W => isnan_word true INFR (by decide) W)
  have c1 : (FloatKind.f64.format.order (wordR true r) 18442240474082181120 == some .eq) = false := by
    show (Ieee.double.order (wordR true r) (wordR true INFR) == some .eq) = false
    rw [order_word (Nat.le_of_lt hr) (by decide), Int.compare_eq_gt.2 (by simp only [sval, INFR, if_true, if_false, Bool.false_eq_true] at *; omega)]; try rfl
  have c2 : (FloatKind.f64.format.order (wordR true r) 0 == some .eq) = false := by
    show (Ieee.double.order (wordR true r) (wordR false 0) == some .eq) = false
    rw [order_word (Nat.le_of_lt hr) (by decide), Int.compare_eq_lt.2 (by simp only [sval, INFR, if_true, if_false, Bool.false_eq_true] at *; omega)]; try rfl
  have c3 : (FloatKind.f64.format.order 18442240474082181120 (wordR true r) == some .gt) = false := by
    show (Ieee.double.order (wordR true INFR) (wordR true r) == some .gt) = false
    rw [order_word (by decide) (Nat.le_of_lt hr), Int.compare_eq_lt.2 (by simp only [sval, INFR, if_true, if_false, Bool.false_eq_true] at *; omega)]; try rfl
  have c4 : (FloatKind.f64.format.order (wordR true r) 0 == some .gt) = false := by
    show (Ieee.double.order (wordR true r) (wordR false 0) == some .gt) = false
    rw [order_word (Nat.le_of_lt hr) (by decide), Int.compare_eq_lt.2 (by simp only [sval, INFR, if_true, if_false, Bool.false_eq_true] at *; omega)]; try rfl
  obtain ⟨u, hu⟩ : ∃ u, wordR true r = u := ⟨_, rfl⟩
  rw [hu] at H1 c1 c2 c3 c4 ⊢
  have hne0 : r ≠ 0 := by omega
  have hneI : r ≠ INFR := by omega
  have hu2 : u = r + 9223372036854775808 := by rw [← hu]; rfl
  have hr2 : r < 9218868437227405312 := hr
  have hb : (u : Int) + 1 ≤ 18446744073709551615 ∧ (0 : Int) ≤ (u : Int) := by omega
  have HN : (nextR false true r) = (true, r + 1) := by simp [nextR, upR, downR, hne0, hneI]
  have HR : Hid (wordR (nextR false true r).1 (nextR false true r).2 = u + 1) := by
    rw [Hid, HN, hu2]
    show r + 1 + 9223372036854775808 = r + 9223372036854775808 + 1
    omega
  clear hu2 hr2 HN
  clear hne0 hneI
  clear hu h0 hr
  go_enter Tryz.func38, Tryz.ntmps38
  go_wp2_with fail
  refine (H1.out _).mono ?_
  rintro e w' ⟨rfl, rfl⟩
  go_wp2_with fail
  refine (H2.out _).mono ?_
  rintro e w' ⟨rfl, rfl⟩
  go_wp2
  go_ret
  exact ⟨by rw [HR.out]; rfl, rfl⟩
theorem nextafter_calls (up neg : Bool) (r : Nat) (hr : r ≤ INFR) (w : World) :
    Calls Tryz.prog 38 #[.float .f64 (wordR neg r), .float .f64 (infW up)] w fun e w' => e = .returned (.float .f64 (wordR (nextR up neg r).1 (nextR up neg r).2)) ∧ w = w' := by
  rcases Nat.eq_zero_or_pos r with h0 | h0
  · subst h0
    cases up <;> cases neg
    · exact nextafter_dp_zero w
    · exact nextafter_dn_zero w
    · exact nextafter_up_zero w
    · exact nextafter_un_zero w
  · rcases Nat.lt_or_eq_of_le hr with h1 | h1
    · cases up <;> cases neg
      · exact nextafter_dp_mid r h0 h1 w
      · exact nextafter_dn_mid r h0 h1 w
      · exact nextafter_up_mid r h0 h1 w
      · exact nextafter_un_mid r h0 h1 w
    · subst h1
      cases up <;> cases neg
      · exact nextafter_dp_inf w
      · exact nextafter_dn_inf w
      · exact nextafter_up_inf w
      · exact nextafter_un_inf w
end Go.Proofs.YtfgdmiigmcnmpaaGreatFmt

namespace Go.Proofs.YtfgdmiigmcnmpaaGreatFmt
open Go.RowKit

/-! ### quotients: of A and B parts (of one power of 2) -/
/-- 2^k is at most A / B, 2^(k+1) above it -/
def kQ (A B : Nat) : Int := if A * 2 ^ bl B < B * 2 ^ bl A then (bl A : Int) - bl B - 1 else (bl A : Int) - bl B
def eQ (A B : Nat) : Int := max (kQ A B - 52) (-1074)
/-- halves of 2^eQ in A / B, at the scale 2^J -/
def numQ (J A : Nat) : Nat := A * 2 ^ J
def denQ (J A B : Nat) : Nat := B * 2 ^ (eQ A B - 1 + J).toNat
def hQ (A B : Nat) : Nat := numQ 1075 A / denQ 1075 A B
def restQ (A B : Nat) : Bool := restB (numQ 1075 A % denQ 1075 A B)
/-- the scale does not matter -/
theorem quot_mul {a b p q : Nat} (hp : 0 < p) (ha : a = q * p) {c : Nat} (hb : b = c * p) : a / b = q / c ∧ restB (a % b) = restB (q % c) := by
  subst ha hb
  refine ⟨Nat.mul_div_mul_right _ _ hp, ?_⟩
  rw [Nat.mul_mod_mul_right]
  unfold restB
  congr 1
  rw [ne_eq, ne_eq, Nat.mul_eq_zero]
  simp only [Nat.ne_of_gt hp, or_false]
theorem hQ_scale (A B J : Nat) : hQ A B = numQ (1075 + J) A / denQ (1075 + J) A B ∧ restQ A B = restB (numQ (1075 + J) A % denQ (1075 + J) A B) := by
  have he : -1074 ≤ eQ A B := by unfold eQ; omega
  have := quot_mul (a := numQ (1075 + J) A) (b := denQ (1075 + J) A B) (p := 2 ^ J) (q := numQ 1075 A) (c := denQ 1075 A B) (Nat.pow_pos (by decide))
    (by unfold numQ; rw [Nat.pow_add, Nat.mul_assoc]) (by unfold denQ; rw [Nat.mul_assoc, ← Nat.pow_add]; congr 2; omega)
  exact ⟨this.1.symm, this.2.symm⟩
/-- 'k' by inequalities -/
theorem kQ_iff {A B : Nat} (hA : A ≠ 0) (hB : B ≠ 0) {k : Int} {J : Nat} (hJ : 0 ≤ k + J) (h1 : B * 2 ^ (k + J).toNat ≤ A * 2 ^ J) (h2 : A * 2 ^ J < B * 2 ^ (k + J + 1).toNat) : kQ A B = k := by
  have a1 := bl_le hA
  have a2 := bl_lt A
  have b1 := bl_le hB
  have b2 := bl_lt B
  have pA := bl_pos hA
  have pB := bl_pos hB
  have mono : ∀ {x y : Nat}, 2 ^ x < 2 ^ y → x < y := fun h => (Nat.pow_lt_pow_iff_right (by decide)).1 h
  have eA : 2 ^ bl A = 2 ^ (bl A - 1) * 2 := by rw [← Nat.pow_succ]; congr 1; omega
  -- k is at most bl A - bl B, at least one less
  have u1 : (k + J).toNat + (bl B - 1) < bl A + J := mono (by
    rw [Nat.pow_add, Nat.pow_add]
    calc 2 ^ (k + J).toNat * 2 ^ (bl B - 1) ≤ 2 ^ (k + J).toNat * B := Nat.mul_le_mul_left _ b1
      _ = B * 2 ^ (k + J).toNat := Nat.mul_comm _ _
      _ ≤ A * 2 ^ J := h1
      _ < 2 ^ bl A * 2 ^ J := Nat.mul_lt_mul_of_pos_right a2 (Nat.pow_pos (by decide)))
  have u2 : bl A - 1 + J < (k + J + 1).toNat + bl B := mono (by
    rw [Nat.pow_add, Nat.pow_add]
    calc 2 ^ (bl A - 1) * 2 ^ J ≤ A * 2 ^ J := Nat.mul_le_mul_right _ a1
      _ < B * 2 ^ (k + J + 1).toNat := h2
      _ ≤ 2 ^ bl B * 2 ^ (k + J + 1).toNat := Nat.mul_le_mul_right _ (Nat.le_of_lt b2)
      _ = 2 ^ (k + J + 1).toNat * 2 ^ bl B := Nat.mul_comm _ _)
  unfold kQ
  have hlt : A * 2 ^ bl B < B * 2 ^ bl A ↔ k < (bl A : Int) - bl B := by
    constructor
    · intro h
      rcases Int.lt_or_le k ((bl A : Int) - bl B) with h3 | h3
      · exact h3
      · exfalso
        have e : k = (bl A : Int) - bl B := by omega
        have e2 : (k + J).toNat + bl B = bl A + J := by omega
        have : B * 2 ^ (k + J).toNat * 2 ^ bl B ≤ A * 2 ^ J * 2 ^ bl B := Nat.mul_le_mul_right _ h1
        rw [Nat.mul_assoc, ← Nat.pow_add, e2, Nat.pow_add, ← Nat.mul_assoc, Nat.mul_assoc A, Nat.mul_comm (2 ^ J), ← Nat.mul_assoc] at this
        have h4 := Nat.mul_lt_mul_of_pos_right h (Nat.pow_pos (n := J) (show 0 < 2 by decide))
        omega
    · intro h
      have e2 : (k + J + 1).toNat + bl B = bl A + J := by omega
      have : A * 2 ^ J * 2 ^ bl B < B * 2 ^ (k + J + 1).toNat * 2 ^ bl B := Nat.mul_lt_mul_of_pos_right h2 (Nat.pow_pos (by decide))
      rw [Nat.mul_assoc B, ← Nat.pow_add, e2, Nat.pow_add, ← Nat.mul_assoc, Nat.mul_assoc A, Nat.mul_comm (2 ^ J), ← Nat.mul_assoc] at this
      exact Nat.lt_of_mul_lt_mul_right this
  by_cases h : A * 2 ^ bl B < B * 2 ^ bl A
  · rw [if_pos h]; have := hlt.1 h; omega
  · rw [if_neg h]
    have : ¬ k < (bl A : Int) - bl B := fun h3 => h (hlt.2 h3)
    omega
theorem sticky_div {P b q : Nat} : (2 * (P / b) + (P % b != 0).toNat) / (2 * q) = P / (b * q) ∧ restB ((2 * (P / b) + (P % b != 0).toNat) % (2 * q)) = restB (P % (b * q)) := by
  have hx : (P % b != 0).toNat < 2 := by cases (P % b != 0) <;> decide
  have e1 : (2 * (P / b) + (P % b != 0).toNat) / 2 = P / b := by omega
  have e2 : (2 * (P / b) + (P % b != 0).toNat) % 2 = (P % b != 0).toNat := by omega
  refine ⟨by rw [← Nat.div_div_eq_div_mul, e1, Nat.div_div_eq_div_mul], ?_⟩
  rw [Nat.mod_mul, e1, e2, Nat.mod_mul]
  unfold restB
  rw [Bool.eq_iff_iff, decide_eq_true_eq, decide_eq_true_eq]
  by_cases h : P % b = 0
  · have hb : b = 0 ∨ b ≠ 0 := by omega
    rw [h]
    rcases hb with hb | hb
    · subst hb; simp at h ⊢
    · have hb' : ¬ b = 0 := hb
      simp [Nat.mul_eq_zero, hb']
  · have : (P % b != 0) = true := by simpa using h
    rw [this]; simp [h]
theorem div_near {ma mb ka kb : Nat} (neg : Bool) (hma : ma ≠ 0) (hmb : mb ≠ 0) (hka : ka ≤ 2046) (hkb : kb ≤ 2046) (hb53 : mb < 9007199254740992) :
    Ieee.double.nearest neg (2 * (ma <<< (54 + mb.log2 - ma.log2) / mb) + (ma <<< (54 + mb.log2 - ma.log2) % mb != 0).toNat) ((ka : Int) - 1074 - ((kb : Int) - 1074) - ((54 + mb.log2 - ma.log2 : Nat) : Int) - 1)
      = wordR neg (nearR (hQ (ma * 2 ^ ka) (mb * 2 ^ kb)) (restQ (ma * 2 ^ ka) (mb * 2 ^ kb)) (eQ (ma * 2 ^ ka) (mb * 2 ^ kb))) := by
  obtain ⟨K, hK⟩ : ∃ K : Nat, K = 1075 + 4000 := ⟨_, rfl⟩
  have la := log2_bl hma
  have lb := log2_bl hmb
  have hbb : bl mb ≤ 53 := bl_le_of_lt (by omega)
  obtain ⟨more, hmore⟩ : ∃ more, 54 + mb.log2 - ma.log2 = more := ⟨_, rfl⟩
  rw [hmore, Nat.shiftLeft_eq]
  obtain ⟨P, hP⟩ : ∃ P, ma * 2 ^ more = P := ⟨_, rfl⟩
  rw [hP]
  have hP0 : P ≠ 0 := by rw [← hP]; exact Nat.mul_ne_zero hma (Nat.ne_of_gt (Nat.pow_pos (by decide)))
  have blP : bl P = bl ma + more := by rw [← hP, bl_mul_pow hma]
  have mbp : 0 < mb := Nat.pos_of_ne_zero hmb
  obtain ⟨D, hD⟩ : ∃ D, P / mb = D := ⟨_, rfl⟩
  have hDlow : 2 ^ 53 ≤ D := by
    rw [← hD, Nat.le_div_iff_mul_le mbp]
    have h1 := bl_le hP0
    have h2 := bl_lt mb
    calc 2 ^ 53 * mb ≤ 2 ^ 53 * 2 ^ bl mb := Nat.mul_le_mul_left _ (Nat.le_of_lt h2)
      _ = 2 ^ (53 + bl mb) := (Nat.pow_add _ _ _).symm
      _ ≤ 2 ^ (bl P - 1) := Nat.pow_le_pow_right (by decide) (by omega)
      _ ≤ P := h1
  have hD0 : D ≠ 0 := by intro h; rw [h] at hDlow; exact absurd hDlow (by decide)
  have blD : 54 ≤ bl D := by
    rcases Nat.lt_or_ge (bl D) 54 with h | h
    · have h1 := bl_lt D
      have h2 : 2 ^ bl D ≤ 2 ^ 53 := Nat.pow_le_pow_right (by decide) (by omega)
      omega
    · exact h
  obtain ⟨mag, hmag⟩ : ∃ mag, 2 * (P / mb) + (P % mb != 0).toNat = mag := ⟨_, rfl⟩
  have hx : (P % mb != 0).toNat < 2 := by cases (P % mb != 0) <;> decide
  have hm2 : mag / 2 = D := by rw [← hmag, ← hD]; omega
  have hm0 : mag ≠ 0 := by intro h; rw [h] at hm2; exact hD0 hm2.symm
  have blm : bl mag = bl D + 1 := by rw [← bl_half hm0, hm2]
  have s1 := fun q => sticky_div (P := P) (b := mb) (q := q)
  rw [hmag] at s1 ⊢
  -- k
  have hk : kQ (ma * 2 ^ ka) (mb * 2 ^ kb) = (bl D : Int) - 1 + ka - kb - more := by
    have h1 : mb * D ≤ P := by rw [← hD]; exact Nat.mul_div_le _ _
    have h2 : P < mb * (D + 1) := by rw [← hD]; have := Nat.lt_mul_div_succ P mbp; omega
    have d1 := bl_le hD0
    have d2 := bl_lt D
    have hmm : more ≤ 107 := by omega
    refine kQ_iff (J := K) (Nat.mul_ne_zero hma (Nat.ne_of_gt (Nat.pow_pos (by decide)))) (Nat.mul_ne_zero hmb (Nat.ne_of_gt (Nat.pow_pos (by decide)))) (by omega) ?_ ?_
    · have e1 : mb * 2 ^ kb * 2 ^ ((bl D : Int) - 1 + ka - kb - more + (K : Nat)).toNat = mb * 2 ^ (bl D - 1) * 2 ^ (ka + K - more) := by
        rw [Nat.mul_assoc, ← Nat.pow_add, Nat.mul_assoc, ← Nat.pow_add]; congr 2; omega
      have e2 : ma * 2 ^ ka * 2 ^ K = P * 2 ^ (ka + K - more) := by
        rw [← hP, Nat.mul_assoc, ← Nat.pow_add, Nat.mul_assoc, ← Nat.pow_add]; congr 2; omega
      rw [e1, e2]
      exact Nat.mul_le_mul_right _ (Nat.le_trans (Nat.mul_le_mul_left _ d1) h1)
    · have e1 : mb * 2 ^ kb * 2 ^ ((bl D : Int) - 1 + ka - kb - more + (K : Nat) + 1).toNat = mb * 2 ^ bl D * 2 ^ (ka + K - more) := by
        rw [Nat.mul_assoc, ← Nat.pow_add, Nat.mul_assoc, ← Nat.pow_add]; congr 2; omega
      have e2 : ma * 2 ^ ka * 2 ^ K = P * 2 ^ (ka + K - more) := by
        rw [← hP, Nat.mul_assoc, ← Nat.pow_add, Nat.mul_assoc, ← Nat.pow_add]; congr 2; omega
      rw [e1, e2]
      exact Nat.mul_lt_mul_of_pos_right (Nat.lt_of_lt_of_le h2 (Nat.mul_le_mul_left _ d2)) (Nat.pow_pos (by decide))
  have hmm : more ≤ 107 := by omega
  obtain ⟨P0, hPP⟩ : ∃ P0, ((ka : Int) - 1074 - ((kb : Int) - 1074) - more - 1 + (K : Nat)).toNat = P0 := ⟨_, rfl⟩
  have hs : ((shD K (mag * 2 ^ P0) : Nat) : Int) - (K : Nat) = eQ (ma * 2 ^ ka) (mb * 2 ^ kb) := by
    unfold eQ shD; rw [hk, bl_mul_pow hm0, blm]; omega
  obtain ⟨t, ht⟩ : ∃ t, shD K (mag * 2 ^ P0) = P0 + (t + 2) := ⟨shD K (mag * 2 ^ P0) - P0 - 2, by unfold shD; rw [bl_mul_pow hm0, blm]; omega⟩
  rw [near_spec (K := K) (M := mag * 2 ^ P0) (s := shD K (mag * 2 ^ P0)) neg hm0 (by omega) (by omega) (by rw [hPP]) rfl, hs]
  have hn : numQ K (ma * 2 ^ ka) = P * 2 ^ (ka + K - more) := by
    unfold numQ; rw [← hP, Nat.mul_assoc, ← Nat.pow_add, Nat.mul_assoc, ← Nat.pow_add]; congr 2; omega
  have hd : denQ K (ma * 2 ^ ka) (mb * 2 ^ kb) = mb * 2 ^ t * 2 ^ (ka + K - more) := by
    unfold denQ; rw [← hs, ht, Nat.mul_assoc, ← Nat.pow_add, Nat.mul_assoc, ← Nat.pow_add]; congr 2; omega
  obtain ⟨r1, r2⟩ := quot_mul (Nat.pow_pos (show 0 < 2 by decide)) hn hd
  obtain ⟨q1, q2⟩ := hQ_scale (ma * 2 ^ ka) (mb * 2 ^ kb) 4000
  rw [← hK] at q1 q2
  rw [r1] at q1
  rw [r2] at q2
  rw [q1, q2, ht]
  have e3 : 2 ^ (P0 + (t + 2) - 1) = 2 ^ P0 * (2 * 2 ^ t) := by rw [← Nat.pow_succ', ← Nat.pow_add]; congr 1
  have hp : 0 < 2 ^ P0 := Nat.pow_pos (by decide)
  obtain ⟨w1, w2⟩ := s1 (2 ^ t)
  obtain ⟨v1, v2⟩ := quot_mul (a := mag * 2 ^ P0) (b := 2 ^ (P0 + (t + 2) - 1)) (p := 2 ^ P0) (q := mag) (c := 2 * 2 ^ t) hp rfl (by rw [e3, Nat.mul_comm])
  rw [v1, v2, w1, w2]
end Go.Proofs.YtfgdmiigmcnmpaaGreatFmt

namespace Go.Proofs.YtfgdmiigmcnmpaaGreatFmt
open Go.RowKit

/-! ### the numbers on both sides of N / D parts of 2^-1074 -/
structure Brk (N D L : Nat) (inx nm : Bool) : Prop where
  lo : rv L * D ≤ N
  hi : N < rv (L + 1) * D
  ix : inx = decide (rv L * D ≠ N)
  nr : nm = (decide ((rv L + rv (L + 1)) * D < 2 * N) || (decide ((rv L + rv (L + 1)) * D = 2 * N) && decide (L % 2 = 1)))
/-- one more than the lower rung, by d -/
def mrD (d : Int) (neg inx nm : Bool) : Bool := (decide (d = 0) && nm) || (((decide (d = 1) && !neg) || (decide (d = 2) && neg)) && inx)
theorem moreH_mr (d : Int) (neg rest : Bool) (h : Nat) : moreH d neg rest h = mrD d neg (decide (h % 2 = 1) || rest) (moreH 0 false rest h) := by
  unfold moreH mrD
  cases neg <;> cases rest <;> simp [Bool.and_assoc]
theorem brk_told {N D h : Nat} {rest : Bool} {e : Int} (hD : 0 < D) (hh : h = 2 * N / (D * 2 ^ (e + 1074).toNat)) (hr : rest = restB (2 * N % (D * 2 ^ (e + 1074).toNat))) (h54 : h < 18014398509481984) (hn : 9007199254740992 ≤ h ∨ e = -1074) :
    Brk N D ((e + 1074).toNat * 4503599627370496 + h / 2) (decide (h % 2 = 1) || rest) (moreH 0 false rest h) := by
  obtain ⟨k, hk⟩ : ∃ k, (e + 1074).toNat = k := ⟨_, rfl⟩
  rw [hk] at hh hr ⊢
  have hn' : 4503599627370496 ≤ h / 2 ∨ k = 0 := by rcases hn with h | h; exact .inl (by omega); exact .inr (by omega)
  have e1 : rv (k * 4503599627370496 + h / 2) = h / 2 * 2 ^ k := rv_at hn' (by omega)
  have e2 : rv (k * 4503599627370496 + h / 2 + 1) = (h / 2 + 1) * 2 ^ k := by rw [Nat.add_assoc]; exact rv_at (hn'.imp (fun h => by omega) id) (by omega)
  obtain ⟨U, hU⟩ : ∃ U, D * 2 ^ k = U := ⟨_, rfl⟩
  rw [hU] at hh hr
  have hUp : 0 < U := by rw [← hU]; exact Nat.mul_pos hD (Nat.pow_pos (by decide))
  obtain ⟨r, hrr⟩ : ∃ r, 2 * N % U = r := ⟨_, rfl⟩
  have hrl : r < U := by rw [← hrr]; exact Nat.mod_lt _ hUp
  have h2N : 2 * N = U * h + r := by rw [← hrr, hh]; exact (Nat.div_add_mod _ _).symm
  rw [hrr] at hr
  have m1 : h / 2 * 2 ^ k * D = h / 2 * U := by rw [Nat.mul_assoc, Nat.mul_comm (2 ^ k), hU]
  have m2 : (h / 2 + 1) * 2 ^ k * D = (h / 2) * U + U := by rw [Nat.mul_assoc, Nat.mul_comm (2 ^ k), hU, Nat.add_mul, Nat.one_mul]
  have hodd : (k * 4503599627370496 + h / 2) % 2 = h / 2 % 2 := by omega
  have key : U * h = 2 * (h / 2 * U) + (h % 2) * U := by
    have : h = 2 * (h / 2) + h % 2 := by omega
    calc U * h = U * (2 * (h / 2) + h % 2) := by rw [← this]
      _ = 2 * (h / 2 * U) + (h % 2) * U := by rw [Nat.mul_add, Nat.mul_comm U (h % 2), Nat.mul_left_comm, Nat.mul_comm U]
  clear hh hk h54 hn hn' hU
  generalize h / 2 * U = V at *
  have hx : h % 2 = 0 ∨ h % 2 = 1 := by omega
  refine ⟨?_, ?_, ?_, ?_⟩
  · rw [e1, m1]
    rcases hx with hx | hx <;> rw [hx] at key <;> omega
  · rw [e2, m2]
    rcases hx with hx | hx <;> rw [hx] at key <;> omega
  · rw [e1, m1, hr]
    unfold restB
    rw [Bool.eq_iff_iff]
    simp only [Bool.or_eq_true, decide_eq_true_eq]
    rcases hx with hx | hx <;> rw [hx] at key ⊢ <;> omega
  · rw [e1, e2, Nat.add_mul, m1, m2, hodd, hr]
    unfold moreH restB
    rw [Bool.eq_iff_iff]
    simp only [Bool.or_eq_true, Bool.and_eq_true, decide_eq_true_eq]
    rcases hx with hx | hx
    · rw [hx] at key ⊢
      simp
      omega
    · rw [hx] at key ⊢
      simp
      omega
/-- the number of X by d, by the rungs on both sides -/
theorem rndS_brk (K : Nat) (hK : 1074 < K) (X : Int) : ∃ L inx nm, Brk X.natAbs (2 ^ (K - 1074)) L inx nm ∧ ∀ d, rndS d K X = outR d (decide (X < 0)) (mrD d (decide (X < 0)) inx nm) (L + (mrD d (decide (X < 0)) inx nm).toNat) := by
  by_cases h0 : X = 0
  · subst h0
    refine ⟨0, false, false, ⟨by rw [rv_zero]; omega, by rw [Int.natAbs_zero]; exact Nat.mul_pos (by decide) (Nat.pow_pos (by decide)), by rw [rv_zero]; simp, by
      have : 0 < rv (0 + 1) := by decide
      rw [rv_zero, Nat.zero_add]
      have hp : 0 < rv 1 * 2 ^ (K - 1074) := Nat.mul_pos (by decide) (Nat.pow_pos (by decide))
      simp⟩, fun d => ?_⟩
    rw [rndS_zero d K hK]
    have : mrD d (decide ((0 : Int) < 0)) false false = false := by unfold mrD; simp
    rw [this, outR_fin (by decide)]
    rfl
  · have hn : X.natAbs ≠ 0 := by omega
    obtain ⟨h1, h2⟩ := rnd_half (K := K) hn hK
    have hs : K - 1074 ≤ shD K X.natAbs := by unfold shD; omega
    have e1 : (((shD K X.natAbs : Nat) : Int) - K + 1074).toNat = shD K X.natAbs - (K - 1074) := by omega
    have e2 : 2 ^ (K - 1074) * 2 ^ (((shD K X.natAbs : Nat) : Int) - K + 1074).toNat = 2 * 2 ^ (shD K X.natAbs - 1) := by
      have e3 : K - 1074 + (shD K X.natAbs - (K - 1074)) = shD K X.natAbs - 1 + 1 := by unfold shD; omega
      rw [e1, ← Nat.pow_add, ← Nat.pow_succ', e3]
    have b := brk_told (N := X.natAbs) (D := 2 ^ (K - 1074)) (h := X.natAbs / 2 ^ (shD K X.natAbs - 1)) (rest := restB (X.natAbs % 2 ^ (shD K X.natAbs - 1))) (e := (shD K X.natAbs : Int) - K) (Nat.pow_pos (by decide))
      (by rw [e2, Nat.mul_div_mul_left _ _ (by decide)])
      (by rw [e2, Nat.mul_mod_mul_left]; unfold restB; rw [Bool.eq_iff_iff, decide_eq_true_eq, decide_eq_true_eq]; generalize X.natAbs % 2 ^ (shD K X.natAbs - 1) = y; omega) h1 h2
    refine ⟨_, _, _, b, fun d => ?_⟩
    unfold rndS toldR
    rw [← moreH_mr]
end Go.Proofs.YtfgdmiigmcnmpaaGreatFmt
