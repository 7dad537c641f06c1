/- Walks and plain laws of this seat's functions, part 13: S4. -/
import Derived.Test.YtikdhkmcdmnadaaGreatFmtJ11
import Derived.Test.YtikdhkmcdmnadaaGreatFmtJ12
set_option linter.unusedVariables false
set_option linter.unusedSimpArgs false
namespace Go.Proofs.YtikdhkmcdmnadaaGreatFmt
open Go.RowKit

/-! ### math.Nextafter towards an infinity, and side -/
theorem isnan_word (neg : Bool) (r : Nat) (hr : r ≤ INFR) (w : World) : Calls Tryz.prog 30 #[.float .f64 (wordR neg r)] w fun e w' => e = .returned (.bool false) ∧ w = w' := by
  refine isnan_calls _ false w ?_
  show (Ieee.double.order (wordR neg r) (wordR neg r) != some .eq) = false
  rw [order_word hr hr, Int.compare_eq_eq.2 rfl]; rfl
abbrev infW (up : Bool) : Nat := if up then 9218868437227405312 else 18442240474082181120
theorem infW_eq (up : Bool) : infW up = wordR (!up) INFR := by cases up <;> rfl
set_option maxHeartbeats 1000000 in
theorem copysign_one (up : Bool) (w : World) : Calls Tryz.prog 92 #[.float .f64 1, .float .f64 (infW up)] w fun e w' => e = .returned (.float .f64 (wordR (!up) 1)) ∧ w = w' := by
  have b1 : bits .andNot .u64 1 9223372036854775808 = 1 := by decide
  have b2 : bits .and .u64 9218868437227405312 9223372036854775808 = 0 := by decide
  have b3 : bits .and .u64 18442240474082181120 9223372036854775808 = 9223372036854775808 := by decide
  have b4 : bits .or .u64 1 0 = 1 := by decide
  have b5 : bits .or .u64 1 9223372036854775808 = 9223372036854775809 := by decide
  cases up
  all_goals (
    go_enter Tryz.func92, Tryz.ntmps92
    go_wp2
    go_ret
    exact ⟨rfl, rfl⟩)
def nextR (up neg : Bool) (r : Nat) : Bool × Nat := if up then upR neg r else downR neg r
set_option maxHeartbeats 1000000 in
set_option maxRecDepth 100000 in
theorem nextafter_up_zero (w : World) : Calls Tryz.prog 69 #[.float .f64 (wordR false 0), .float .f64 9218868437227405312] w fun e w' => e = .returned (.float .f64 (wordR (nextR true false 0).1 (nextR true false 0).2)) ∧ w = w' := by
  have H1 := Lib.hid (fun W => isnan_word false 0 (by decide) W)
  have H2 := Lib.hid (fun W => isnan_word false INFR (by decide) W)
  have H3 := Lib.hid (fun W => copysign_one true W)
  have c1 : (FloatKind.f64.format.order (wordR false 0) 9218868437227405312 == some .eq) = false := by
    show (Ieee.double.order (wordR false 0) (wordR false INFR) == some .eq) = false
    rw [order_word (by decide) (by decide), Int.compare_eq_lt.2 (by decide)]; try rfl
  have c2 : (FloatKind.f64.format.order (wordR false 0) 0 == some .eq) = true := by
    show (Ieee.double.order (wordR false 0) (wordR false 0) == some .eq) = true
    rw [order_word (by decide) (by decide), Int.compare_eq_eq.2 (by decide)]; try rfl
  obtain ⟨u, hu⟩ : ∃ u, wordR false 0 = u := ⟨_, rfl⟩
  rw [hu] at H1 c1 c2 ⊢
  clear hu
  go_enter Tryz.func69, Tryz.ntmps69
  go_wp2_with fail
  refine (H1.out _).mono ?_
  rintro e w' ⟨rfl, rfl⟩
  go_wp2_with fail
  refine (H2.out _).mono ?_
  rintro e w' ⟨rfl, rfl⟩
  go_wp2_with fail
  refine (H3.out _).mono ?_
  rintro e w' ⟨rfl, rfl⟩
  go_wp2
  go_ret
  exact ⟨rfl, rfl⟩
set_option maxHeartbeats 1000000 in
set_option maxRecDepth 100000 in
theorem nextafter_up_inf (w : World) : Calls Tryz.prog 69 #[.float .f64 (wordR false INFR), .float .f64 9218868437227405312] w fun e w' => e = .returned (.float .f64 (wordR (nextR true false INFR).1 (nextR true false INFR).2)) ∧ w = w' := by
  have H1 := Lib.hid (fun W => isnan_word false INFR (by decide) W)
  have H2 := Lib.hid (fun W => isnan_word false INFR (by decide) W)
  have c1 : (FloatKind.f64.format.order (wordR false INFR) 9218868437227405312 == some .eq) = true := by
    show (Ieee.double.order (wordR false INFR) (wordR false INFR) == some .eq) = true
    rw [order_word (by decide) (by decide), Int.compare_eq_eq.2 (by decide)]; try rfl
  obtain ⟨u, hu⟩ : ∃ u, wordR false INFR = u := ⟨_, rfl⟩
  rw [hu] at H1 c1 ⊢
  have HR : Hid (wordR (nextR true false INFR).1 (nextR true false INFR).2 = u) := by rw [Hid, ← hu]; simp [nextR, upR, downR, wordR]
  clear hu
  go_enter Tryz.func69, Tryz.ntmps69
  go_wp2_with fail
  refine (H1.out _).mono ?_
  rintro e w' ⟨rfl, rfl⟩
  go_wp2_with fail
  refine (H2.out _).mono ?_
  rintro e w' ⟨rfl, rfl⟩
  go_wp2
  go_ret
  exact ⟨by rw [HR.out]; rfl, rfl⟩
set_option maxHeartbeats 1000000 in
set_option maxRecDepth 100000 in
theorem nextafter_up_mid (r : Nat) (h0 : 0 < r) (hr : r < INFR) (w : World) : Calls Tryz.prog 69 #[.float .f64 (wordR false r), .float .f64 9218868437227405312] w fun e w' => e = .returned (.float .f64 (wordR (nextR true false r).1 (nextR true false r).2)) ∧ w = w' := by
  have H1 := Lib.hid (fun W => isnan_word false r (Nat.le_of_lt hr) W)
  have H2 := Lib.hid (fun W => isnan_word false INFR (by decide) W)
  have c1 : (FloatKind.f64.format.order (wordR false r) 9218868437227405312 == some .eq) = false := by
    show (Ieee.double.order (wordR false r) (wordR false INFR) == some .eq) = false
    rw [order_word (Nat.le_of_lt hr) (by decide), Int.compare_eq_lt.2 (by simp only [sval, INFR, if_true, if_false, Bool.false_eq_true] at *; omega)]; try rfl
  have c2 : (FloatKind.f64.format.order (wordR false r) 0 == some .eq) = false := by
    show (Ieee.double.order (wordR false r) (wordR false 0) == some .eq) = false
    rw [order_word (Nat.le_of_lt hr) (by decide), Int.compare_eq_gt.2 (by simp only [sval, INFR, if_true, if_false, Bool.false_eq_true] at *; omega)]; try rfl
  have c3 : (FloatKind.f64.format.order 9218868437227405312 (wordR false r) == some .gt) = true := by
    show (Ieee.double.order (wordR false INFR) (wordR false r) == some .gt) = true
    rw [order_word (by decide) (Nat.le_of_lt hr), Int.compare_eq_gt.2 (by simp only [sval, INFR, if_true, if_false, Bool.false_eq_true] at *; omega)]; try rfl
  have c4 : (FloatKind.f64.format.order (wordR false r) 0 == some .gt) = true := by
    show (Ieee.double.order (wordR false r) (wordR false 0) == some .gt) = true
    rw [order_word (Nat.le_of_lt hr) (by decide), Int.compare_eq_gt.2 (by simp only [sval, INFR, if_true, if_false, Bool.false_eq_true] at *; omega)]; try rfl
  obtain ⟨u, hu⟩ : ∃ u, wordR false r = u := ⟨_, rfl⟩
  rw [hu] at H1 c1 c2 c3 c4 ⊢
  have hne0 : r ≠ 0 := by omega
  have hneI : r ≠ INFR := by omega
  have hu2 : u = r := by rw [← hu]; rfl
  have hr2 : r < 9218868437227405312 := hr
  have hb : (u : Int) + 1 ≤ 18446744073709551615 ∧ (0 : Int) ≤ (u : Int) := by omega
  have HN : (nextR true false r) = (false, r + 1) := by simp [nextR, upR, downR, hne0, hneI]
  have HR : Hid (wordR (nextR true false r).1 (nextR true false r).2 = u + 1) := by
    rw [Hid, HN, hu2]
    show r + 1 = r + 1
    omega
  clear hu2 hr2 HN
  clear hne0 hneI
  clear hu h0 hr
  go_enter Tryz.func69, Tryz.ntmps69
  go_wp2_with fail
  refine (H1.out _).mono ?_
  rintro e w' ⟨rfl, rfl⟩
  go_wp2_with fail
  refine (H2.out _).mono ?_
  rintro e w' ⟨rfl, rfl⟩
  go_wp2
  go_ret
  exact ⟨by rw [HR.out]; rfl, rfl⟩
set_option maxHeartbeats 1000000 in
set_option maxRecDepth 100000 in
theorem nextafter_un_zero (w : World) : Calls Tryz.prog 69 #[.float .f64 (wordR true 0), .float .f64 9218868437227405312] w fun e w' => e = .returned (.float .f64 (wordR (nextR true true 0).1 (nextR true true 0).2)) ∧ w = w' := by
  have H1 := Lib.hid (fun W => isnan_word true 0 (by decide) W)
  have H2 := Lib.hid (fun W => isnan_word false INFR (by decide) W)
  have H3 := Lib.hid (fun W => copysign_one true W)
  have c1 : (FloatKind.f64.format.order (wordR true 0) 9218868437227405312 == some .eq) = false := by
    show (Ieee.double.order (wordR true 0) (wordR false INFR) == some .eq) = false
    rw [order_word (by decide) (by decide), Int.compare_eq_lt.2 (by decide)]; try rfl
  have c2 : (FloatKind.f64.format.order (wordR true 0) 0 == some .eq) = true := by
    show (Ieee.double.order (wordR true 0) (wordR false 0) == some .eq) = true
    rw [order_word (by decide) (by decide), Int.compare_eq_eq.2 (by decide)]; try rfl
  obtain ⟨u, hu⟩ : ∃ u, wordR true 0 = u := ⟨_, rfl⟩
  rw [hu] at H1 c1 c2 ⊢
  clear hu
  go_enter Tryz.func69, Tryz.ntmps69
  go_wp2_with fail
  refine (H1.out _).mono ?_
  rintro e w' ⟨rfl, rfl⟩
  go_wp2_with fail
  refine (H2.out _).mono ?_
  rintro e w' ⟨rfl, rfl⟩
  go_wp2_with fail
  refine (H3.out _).mono ?_
  rintro e w' ⟨rfl, rfl⟩
  go_wp2
  go_ret
  exact ⟨rfl, rfl⟩
set_option maxHeartbeats 1000000 in
set_option maxRecDepth 100000 in
theorem nextafter_un_inf (w : World) : Calls Tryz.prog 69 #[.float .f64 (wordR true INFR), .float .f64 9218868437227405312] w fun e w' => e = .returned (.float .f64 (wordR (nextR true true INFR).1 (nextR true true INFR).2)) ∧ w = w' := by
  have H1 := Lib.hid (fun W => isnan_word true INFR (by decide) W)
  have H2 := Lib.hid (fun W => isnan_word false INFR (by decide) W)
  have c1 : (FloatKind.f64.format.order (wordR true INFR) 9218868437227405312 == some .eq) = false := by
    show (Ieee.double.order (wordR true INFR) (wordR false INFR) == some .eq) = false
    rw [order_word (by decide) (by decide), Int.compare_eq_lt.2 (by decide)]; try rfl
  have c2 : (FloatKind.f64.format.order (wordR true INFR) 0 == some .eq) = false := by
    show (Ieee.double.order (wordR true INFR) (wordR false 0) == some .eq) = false
    rw [order_word (by decide) (by decide), Int.compare_eq_lt.2 (by decide)]; try rfl
  have c3 : (FloatKind.f64.format.order 9218868437227405312 (wordR true INFR) == some .gt) = true := by
    show (Ieee.double.order (wordR false INFR) (wordR true INFR) == some .gt) = true
    rw [order_word (by decide) (by decide), Int.compare_eq_gt.2 (by decide)]; try rfl
  have c4 : (FloatKind.f64.format.order (wordR true INFR) 0 == some .gt) = false := by
    show (Ieee.double.order (wordR true INFR) (wordR false 0) == some .gt) = false
    rw [order_word (by decide) (by decide), Int.compare_eq_lt.2 (by decide)]; try rfl
  obtain ⟨u, hu⟩ : ∃ u, wordR true INFR = u := ⟨_, rfl⟩
  rw [hu] at H1 c1 c2 c3 c4 ⊢
  have hb : (0 : Int) ≤ (u : Int) - 1 ∧ (u : Int) ≤ 18446744073709551615 := by rw [← hu]; simp [wordR, INFR]
  have HR : Hid (wordR (nextR true true INFR).1 (nextR true true INFR).2 = u - 1) := by rw [Hid, ← hu]; simp [nextR, upR, downR, wordR, INFR]
  have hm1 : (u : Int) - 1 = ((u - 1 : Nat) : Int) := by omega
  clear hu
  go_enter Tryz.func69, Tryz.ntmps69
  go_wp2_with fail
  refine (H1.out _).mono ?_
  rintro e w' ⟨rfl, rfl⟩
  go_wp2_with fail
  refine (H2.out _).mono ?_
  rintro e w' ⟨rfl, rfl⟩
  go_wp2
  go_ret
  exact ⟨by rw [HR.out]; rfl, rfl⟩
set_option maxHeartbeats 1000000 in
set_option maxRecDepth 100000 in
theorem nextafter_un_mid (r : Nat) (h0 : 0 < r) (hr : r < INFR) (w : World) : Calls Tryz.prog 69 #[.float .f64 (wordR true r), .float .f64 9218868437227405312] w fun e w' => e = .returned (.float .f64 (wordR (nextR true true r).1 (nextR true true r).2)) ∧ w = w' := by
  have H1 := Lib.hid (fun W => isnan_word true r (Nat.le_of_lt hr) W)
  have H2 := Lib.hid (fun W => isnan_word false INFR (by decide) W)
  have c1 : (FloatKind.f64.format.order (wordR true r) 9218868437227405312 == some .eq) = false := by
    show (Ieee.double.order (wordR true r) (wordR false INFR) == some .eq) = false
    rw [order_word (Nat.le_of_lt hr) (by decide), Int.compare_eq_lt.2 (by simp only [sval, INFR, if_true, if_false, Bool.false_eq_true] at *; omega)]; try rfl
  have c2 : (FloatKind.f64.format.order (wordR true r) 0 == some .eq) = false := by
    show (Ieee.double.order (wordR true r) (wordR false 0) == some .eq) = false
    rw [order_word (Nat.le_of_lt hr) (by decide), Int.compare_eq_lt.2 (by simp only [sval, INFR, if_true, if_false, Bool.false_eq_true] at *; omega)]; try rfl
  have c3 : (FloatKind.f64.format.order 9218868437227405312 (wordR true r) == some .gt) = true := by
    show (Ieee.double.order (wordR false INFR) (wordR true r) == some .gt) = true
    rw [order_word (by decide) (Nat.le_of_lt hr), Int.compare_eq_gt.2 (by simp only [sval, INFR, if_true, if_false, Bool.false_eq_true] at *; omega)]; try rfl
  have c4 : (FloatKind.f64.format.order (wordR true r) 0 == some .gt) = false := by
    show (Ieee.double.order (wordR true r) (wordR false 0) == some .gt) = false
    rw [order_word (Nat.le_of_lt hr) (by decide), Int.compare_eq_lt.2 (by simp only [sval, INFR, if_true, if_false, Bool.false_eq_true] at *; omega)]; try rfl
  obtain ⟨u, hu⟩ : ∃ u, wordR true r = u := ⟨_, rfl⟩
  rw [hu] at H1 c1 c2 c3 c4 ⊢
  have hne0 : r ≠ 0 := by omega
  have hneI : r ≠ INFR := by omega
  have hu2 : u = r + 9223372036854775808 := by rw [← hu]; rfl
  have hr2 : r < 9218868437227405312 := hr
  have hb : (0 : Int) ≤ (u : Int) - 1 ∧ (u : Int) ≤ 18446744073709551615 := by omega
  have HN : (nextR true true r) = (true, r - 1) := by simp [nextR, upR, downR, hne0, hneI]
  have HR : Hid (wordR (nextR true true r).1 (nextR true true r).2 = u - 1) := by
    rw [Hid, HN, hu2]
    show r - 1 + 9223372036854775808 = r + 9223372036854775808 - 1
    omega
  have hm1 : (u : Int) - 1 = ((u - 1 : Nat) : Int) := by omega
  clear hu2 hr2 HN
  clear hne0 hneI
  clear hu h0 hr
  go_enter Tryz.func69, Tryz.ntmps69
  go_wp2_with fail
  refine (H1.out _).mono ?_
  rintro e w' ⟨rfl, rfl⟩
  go_wp2_with fail
  refine (H2.out _).mono ?_
  rintro e w' ⟨rfl, rfl⟩
  go_wp2
  go_ret
  exact ⟨by rw [HR.out]; rfl, rfl⟩
set_option maxHeartbeats 1000000 in
set_option maxRecDepth 100000 in
theorem nextafter_dp_zero (w : World) : Calls Tryz.prog 69 #[.float .f64 (wordR false 0), .float .f64 18442240474082181120] w fun e w' => e = .returned (.float .f64 (wordR (nextR false false 0).1 (nextR false false 0).2)) ∧ w = w' := by
  have H1 := Lib.hid (fun W => isnan_word false 0 (by decide) W)
  have H2 := Lib.hid (fun W => isnan_word true INFR (by decide) W)
  have H3 := Lib.hid (fun W => copysign_one false W)
  have c1 : (FloatKind.f64.format.order (wordR false 0) 18442240474082181120 == some .eq) = false := by
    show (Ieee.double.order (wordR false 0) (wordR true INFR) == some .eq) = false
    rw [order_word (by decide) (by decide), Int.compare_eq_gt.2 (by decide)]; try rfl
  have c2 : (FloatKind.f64.format.order (wordR false 0) 0 == some .eq) = true := by
    show (Ieee.double.order (wordR false 0) (wordR false 0) == some .eq) = true
    rw [order_word (by decide) (by decide), Int.compare_eq_eq.2 (by decide)]; try rfl
  obtain ⟨u, hu⟩ : ∃ u, wordR false 0 = u := ⟨_, rfl⟩
  rw [hu] at H1 c1 c2 ⊢
  clear hu
  go_enter Tryz.func69, Tryz.ntmps69
  go_wp2_with fail
  refine (H1.out _).mono ?_
  rintro e w' ⟨rfl, rfl⟩
  go_wp2_with fail
  refine (H2.out _).mono ?_
  rintro e w' ⟨rfl, rfl⟩
  go_wp2_with fail
  refine (H3.out _).mono ?_
  rintro e w' ⟨rfl, rfl⟩
  go_wp2
  go_ret
  exact ⟨rfl, rfl⟩
set_option maxHeartbeats 1000000 in
set_option maxRecDepth 100000 in
theorem nextafter_dp_inf (w : World) : Calls Tryz.prog 69 #[.float .f64 (wordR false INFR), .float .f64 18442240474082181120] w fun e w' => e = .returned (.float .f64 (wordR (nextR false false INFR).1 (nextR false false INFR).2)) ∧ w = w' := by
  have H1 := Lib.hid (fun W => isnan_word false INFR (by decide) W)
  have H2 := Lib.hid (fun W => isnan_word true INFR (by decide) W)
  have c1 : (FloatKind.f64.format.order (wordR false INFR) 18442240474082181120 == some .eq) = false := by
    show (Ieee.double.order (wordR false INFR) (wordR true INFR) == some .eq) = false
    rw [order_word (by decide) (by decide), Int.compare_eq_gt.2 (by decide)]; try rfl
  have c2 : (FloatKind.f64.format.order (wordR false INFR) 0 == some .eq) = false := by
    show (Ieee.double.order (wordR false INFR) (wordR false 0) == some .eq) = false
    rw [order_word (by decide) (by decide), Int.compare_eq_gt.2 (by decide)]; try rfl
  have c3 : (FloatKind.f64.format.order 18442240474082181120 (wordR false INFR) == some .gt) = false := by
    show (Ieee.double.order (wordR true INFR) (wordR false INFR) == some .gt) = false
    rw [order_word (by decide) (by decide), Int.compare_eq_lt.2 (by decide)]; try rfl
  have c4 : (FloatKind.f64.format.order (wordR false INFR) 0 == some .gt) = true := by
    show (Ieee.double.order (wordR false INFR) (wordR false 0) == some .gt) = true
    rw [order_word (by decide) (by decide), Int.compare_eq_gt.2 (by decide)]; try rfl
  obtain ⟨u, hu⟩ : ∃ u, wordR false INFR = u := ⟨_, rfl⟩
  rw [hu] at H1 c1 c2 c3 c4 ⊢
  have hb : (0 : Int) ≤ (u : Int) - 1 ∧ (u : Int) ≤ 18446744073709551615 := by rw [← hu]; simp [wordR, INFR]
  have HR : Hid (wordR (nextR false false INFR).1 (nextR false false INFR).2 = u - 1) := by rw [Hid, ← hu]; simp [nextR, upR, downR, wordR, INFR]
  have hm1 : (u : Int) - 1 = ((u - 1 : Nat) : Int) := by omega
  clear hu
  go_enter Tryz.func69, Tryz.ntmps69
  go_wp2_with fail
  refine (H1.out _).mono ?_
  rintro e w' ⟨rfl, rfl⟩
  go_wp2_with fail
  refine (H2.out _).mono ?_
  rintro e w' ⟨rfl, rfl⟩
  go_wp2
  go_ret
  exact ⟨by rw [HR.out]; rfl, rfl⟩
set_option maxHeartbeats 1000000 in
set_option maxRecDepth 100000 in
theorem nextafter_dp_mid (r : Nat) (h0 : 0 < r) (hr : r < INFR) (w : World) : Calls Tryz.prog 69 #[.float .f64 (wordR false r), .float .f64 18442240474082181120] w fun e w' => e = .returned (.float .f64 (wordR (nextR false false r).1 (nextR false false r).2)) ∧ w = w' := by
  have H1 := Lib.hid (fun W => isnan_word false r (Nat.le_of_lt hr) W)
  have H2 := Lib.hid (fun W => isnan_word true INFR (by decide) W)
  have c1 : (FloatKind.f64.format.order (wordR false r) 18442240474082181120 == some .eq) = false := by
    show (Ieee.double.order (wordR false r) (wordR true INFR) == some .eq) = false
    rw [order_word (Nat.le_of_lt hr) (by decide), Int.compare_eq_gt.2 (by simp only [sval, INFR, if_true, if_false, Bool.false_eq_true] at *; omega)]; try rfl
  have c2 : (FloatKind.f64.format.order (wordR false r) 0 == some .eq) = false := by
    show (Ieee.double.order (wordR false r) (wordR false 0) == some .eq) = false
    rw [order_word (Nat.le_of_lt hr) (by decide), Int.compare_eq_gt.2 (by simp only [sval, INFR, if_true, if_false, Bool.false_eq_true] at *; omega)]; try rfl
  have c3 : (FloatKind.f64.format.order 18442240474082181120 (wordR false r) == some .gt) = false := by
    show (Ieee.double.order (wordR true INFR) (wordR false r) == some .gt) = false
    rw [order_word (by decide) (Nat.le_of_lt hr), Int.compare_eq_lt.2 (by simp only [sval, INFR, if_true, if_false, Bool.false_eq_true] at *; omega)]; try rfl
  have c4 : (FloatKind.f64.format.order (wordR false r) 0 == some .gt) = true := by
    show (Ieee.double.order (wordR false r) (wordR false 0) == some .gt) = true
    rw [order_word (Nat.le_of_lt hr) (by decide), Int.compare_eq_gt.2 (by simp only [sval, INFR, if_true, if_false, Bool.false_eq_true] at *; omega)]; try rfl
  obtain ⟨u, hu⟩ : ∃ u, wordR false r = u := ⟨_, rfl⟩
  rw [hu] at H1 c1 c2 c3 c4 ⊢
  have hne0 : r ≠ 0 := by omega
  have hneI : r ≠ INFR := by omega
  have hu2 : u = r := by rw [← hu]; rfl
  have hr2 : r < 9218868437227405312 := hr
  have hb : (0 : Int) ≤ (u : Int) - 1 ∧ (u : Int) ≤ 18446744073709551615 := by omega
  have HN : (nextR false false r) = (false, r - 1) := by simp [nextR, upR, downR, hne0, hneI]
  have HR : Hid (wordR (nextR false false r).1 (nextR false false r).2 = u - 1) := by
    rw [Hid, HN, hu2]
    show r - 1 = r - 1
    omega
  have hm1 : (u : Int) - 1 = ((u - 1 : Nat) : Int) := by omega
  clear hu2 hr2 HN
  clear hne0 hneI
  clear hu h0 hr
  go_enter Tryz.func69, Tryz.ntmps69
  go_wp2_with fail
  refine (H1.out _).mono ?_
  rintro e w' ⟨rfl, rfl⟩
  go_wp2_with fail
  refine (H2.out _).mono ?_
  rintro e w' ⟨rfl, rfl⟩
  go_wp2
  go_ret
  exact ⟨by rw [HR.out]; rfl, rfl⟩
set_option maxHeartbeats 1000000 in
set_option maxRecDepth 100000 in
theorem nextafter_dn_zero (w : World) : Calls Tryz.prog 69 #[.float .f64 (wordR true 0), .float .f64 18442240474082181120] w fun e w' => e = .returned (.float .f64 (wordR (nextR false true 0).1 (nextR false true 0).2)) ∧ w = w' := by
  have H1 := Lib.hid (fun W => isnan_word true 0 (by decide) W)
  have H2 := Lib.hid (fun W => isnan_word true INFR (by decide) W)
  have H3 := Lib.hid (fun W => copysign_one false W)
  have c1 : (FloatKind.f64.format.order (wordR true 0) 18442240474082181120 == some .eq) = false := by
    show (Ieee.double.order (wordR true 0) (wordR true INFR) == some .eq) = false
    rw [order_word (by decide) (by decide), Int.compare_eq_gt.2 (by decide)]; try rfl
  have c2 : (FloatKind.f64.format.order (wordR true 0) 0 == some .eq) = true := by
    show (Ieee.double.order (wordR true 0) (wordR false 0) == some .eq) = true
    rw [order_word (by decide) (by decide), Int.compare_eq_eq.2 (by decide)]; try rfl
  obtain ⟨u, hu⟩ : ∃ u, wordR true 0 = u := ⟨_, rfl⟩
  rw [hu] at H1 c1 c2 ⊢
  clear hu
  go_enter Tryz.func69, Tryz.ntmps69
  go_wp2_with fail
  refine (H1.out _).mono ?_
  rintro e w' ⟨rfl, rfl⟩
  go_wp2_with fail
  refine (H2.out _).mono ?_
  rintro e w' ⟨rfl, rfl⟩
  go_wp2_with fail
  refine (H3.out _).mono ?_
  rintro e w' ⟨rfl, rfl⟩
  go_wp2
  go_ret
  exact ⟨rfl, rfl⟩
set_option maxHeartbeats 1000000 in
set_option maxRecDepth 100000 in
theorem nextafter_dn_inf (w : World) : Calls Tryz.prog 69 #[.float .f64 (wordR true INFR), .float .f64 18442240474082181120] w fun e w' => e = .returned (.float .f64 (wordR (nextR false true INFR).1 (nextR false true INFR).2)) ∧ w = w' := by
  have H1 := Lib.hid (fun W => isnan_word true INFR (by decide) W)
  have H2 := Lib.hid (fun W => isnan_word true INFR (by decide) W)
  have c1 : (FloatKind.f64.format.order (wordR true INFR) 18442240474082181120 == some .eq) = true := by
    show (Ieee.double.order (wordR true INFR) (wordR true INFR) == some .eq) = true
    rw [order_word (by decide) (by decide), Int.compare_eq_eq.2 (by decide)]; try rfl
  obtain ⟨u, hu⟩ : ∃ u, wordR true INFR = u := ⟨_, rfl⟩
  rw [hu] at H1 c1 ⊢
  have HR : Hid (wordR (nextR false true INFR).1 (nextR false true INFR).2 = u) := by rw [Hid, ← hu]; simp [nextR, upR, downR, wordR]
  clear hu
  go_enter Tryz.func69, Tryz.ntmps69
  go_wp2_with fail
  refine (H1.out _).mono ?_
  rintro e w' ⟨rfl, rfl⟩
  go_wp2_with fail
  refine (H2.out _).mono ?_
  rintro e w' ⟨rfl, rfl⟩
  go_wp2
  go_ret
  exact ⟨by rw [HR.out]; rfl, rfl⟩
set_option maxHeartbeats 1000000 in
set_option maxRecDepth 100000 in
theorem nextafter_dn_mid (r : Nat) (h0 : 0 < r) (hr : r < INFR) (w : World) : Calls Tryz.prog 69 #[.float .f64 (wordR true r), .float .f64 18442240474082181120] w fun e w' => e = .returned (.float .f64 (wordR (nextR false true r).1 (nextR false true r).2)) ∧ w = w' := by
  have H1 := Lib.hid (fun W => isnan_word true r (Nat.le_of_lt hr) W)
  have H2 := Lib.hid (fun W => isnan_word true INFR (by decide) W)
  have c1 : (FloatKind.f64.format.order (wordR true r) 18442240474082181120 == some .eq) = false := by
    show (Ieee.double.order (wordR true r) (wordR true INFR) == some .eq) = false
    rw [order_word (Nat.le_of_lt hr) (by decide), Int.compare_eq_gt.2 (by simp only [sval, INFR, if_true, if_false, Bool.false_eq_true] at *; omega)]; try rfl
  have c2 : (FloatKind.f64.format.order (wordR true r) 0 == some .eq) = false := by
    show (Ieee.double.order (wordR true r) (wordR false 0) == some .eq) = false
    rw [order_word (Nat.le_of_lt hr) (by decide), Int.compare_eq_lt.2 (by simp only [sval, INFR, if_true, if_false, Bool.false_eq_true] at *; omega)]; try rfl
  have c3 : (FloatKind.f64.format.order 18442240474082181120 (wordR true r) == some .gt) = false := by
    show (Ieee.double.order (wordR true INFR) (wordR true r) == some .gt) = false
    rw [order_word (by decide) (Nat.le_of_lt hr), Int.compare_eq_lt.2 (by simp only [sval, INFR, if_true, if_false, Bool.false_eq_true] at *; omega)]; try rfl
  have c4 : (FloatKind.f64.format.order (wordR true r) 0 == some .gt) = false := by
    show (Ieee.double.order (wordR true r) (wordR false 0) == some .gt) = false
    rw [order_word (Nat.le_of_lt hr) (by decide), Int.compare_eq_lt.2 (by simp only [sval, INFR, if_true, if_false, Bool.false_eq_true] at *; omega)]; try rfl
  obtain ⟨u, hu⟩ : ∃ u, wordR true r = u := ⟨_, rfl⟩
  rw [hu] at H1 c1 c2 c3 c4 ⊢
  have hne0 : r ≠ 0 := by omega
  have hneI : r ≠ INFR := by omega
  have hu2 : u = r + 9223372036854775808 := by rw [← hu]; rfl
  have hr2 : r < 9218868437227405312 := hr
  have hb : (u : Int) + 1 ≤ 18446744073709551615 ∧ (0 : Int) ≤ (u : Int) := by omega
  have HN : (nextR false true r) = (true, r + 1) := by simp [nextR, upR, downR, hne0, hneI]
  have HR : Hid (wordR (nextR false true r).1 (nextR false true r).2 = u + 1) := by
    rw [Hid, HN, hu2]
    show r + 1 + 9223372036854775808 = r + 9223372036854775808 + 1
    omega
  clear hu2 hr2 HN
  clear hne0 hneI
  clear hu h0 hr
  go_enter Tryz.func69, Tryz.ntmps69
  go_wp2_with fail
  refine (H1.out _).mono ?_
  rintro e w' ⟨rfl, rfl⟩
  go_wp2_with fail
  refine (H2.out _).mono ?_
  rintro e w' ⟨rfl, rfl⟩
  go_wp2
  go_ret
  exact ⟨by rw [HR.out]; rfl, rfl⟩
theorem nextafter_calls (up neg : Bool) (r : Nat) (hr : r ≤ INFR) (w : World) :
    Calls Tryz.prog 69 #[.float .f64 (wordR neg r), .float .f64 (infW up)] w fun e w' => e = .returned (.float .f64 (wordR (nextR up neg r).1 (nextR up neg r).2)) ∧ w = w' := by
  rcases Nat.eq_zero_or_pos r with h0 | h0
  · subst h0
    cases up <;> cases neg
    · exact nextafter_dp_zero w
    · exact nextafter_dn_zero w
    · exact nextafter_up_zero w
    · exact nextafter_un_zero w
  · rcases Nat.lt_or_eq_of_le hr with h1 | h1
    · cases up <;> cases neg
      · exact nextafter_dp_mid r h0 h1 w
      · exact nextafter_dn_mid r h0 h1 w
      · exact nextafter_up_mid r h0 h1 w
      · exact nextafter_un_mid r h0 h1 w
    · subst h1
      cases up <;> cases neg
      · exact nextafter_dp_inf w
      · exact nextafter_dn_inf w
      · exact nextafter_up_inf w
      · exact nextafter_un_inf w
end Go.Proofs.YtikdhkmcdmnadaaGreatFmt
