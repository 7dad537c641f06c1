/- Walks and plain laws of this seat's functions, part 36: Q2 Q4 Q5. -/
import Derived.Test.YtikdhkmcdmnadaaGreatFmtBesafterJ08
import Derived.Test.YtikdhkmcdmnadaaGreatFmtBesafterJ34
import Derived.Test.YtikdhkmcdmnadaaGreatFmtBesafterJ35
set_option linter.unusedVariables false
set_option linter.unusedSimpArgs false
namespace Go.Proofs.YtikdhkmcdmnadaaGreatFmtBesafter
open Go.RowKit
attribute [local go_sem ↓] Go.wp_at_zero Go.wp_at_succ

/-! ### started -/
theorem st1 : askS 1 0 4607182418800017408 4368491638549381120 = some 4607182418800017408 := by decide +kernel
theorem st2 : askS 1 1 4607182418800017408 4368491638549381120 = some 4607182418800017409 := by decide +kernel
theorem st3 : divS 2 4607182418800017408 4613937818241073152 = some 4599676419421066581 := by decide +kernel
theorem st4 : askS 3 0 9218868437227405311 4611686018427387904 = none := by decide +kernel
theorem apifloat_calls (w : World) : Calls Tryz.prog 21 #[.int .u64 9218868437227405311] w fun e w' => e = .returned (.float .f64 9218868437227405311) ∧ w = w' := by
  go_enter Tryz.func21, Tryz.ntmps21
  go_wp2
  go_ret
  exact ⟨rfl, rfl⟩
set_option maxHeartbeats 4000000 in
set_option maxRecDepth 100000 in
theorem started_calls (w : World) : Calls Tryz.prog 6 #[] w fun e w' => e = .returned (.bool true) ∧ Below w.heap.size w w' := by
  have H1 := Lib.hid (fun W => radd_calls 0 4607182418800017408 4368491638549381120 (by decide) (by decide) W)
  have H2 := Lib.hid (fun W => radd_calls 1 4607182418800017408 4368491638549381120 (by decide) (by decide) W)
  have H3 := Lib.hid (fun W => rdiv_calls 2 4607182418800017408 4613937818241073152 (by decide) (by decide) W)
  have H4 := Lib.hid (fun W => rmul_calls 0 9218868437227405311 4611686018427387904 (by decide) (by decide) W)
  rw [st1] at H1
  rw [st2] at H2
  rw [st3] at H3
  rw [st4] at H4
  have HB1 := Lib.hid (fun W => apibits_calls 4607182418800017409 W)
  have HB2 := Lib.hid (fun W => apibits_calls 4599676419421066581 W)
  have HNU := Lib.hid (fun W => number?_calls 4607182418800017408 true W (by decide) (by decide))
  have ho : (FloatKind.f64.format.order 4607182418800017408 4607182418800017408 == some .eq) = true := by decide +kernel
  go_enter Tryz.func6, Tryz.ntmps6
  go_wp2_with fail
  refine (H1.out _).mono ?_
  rintro e w1 ⟨rfl, hW1⟩
  have HW1 := Lib.hid hW1
  clear hW1
  unfold fRet2
  go_wp2_with fail
  refine (H2.out _).mono ?_
  rintro e w2 ⟨rfl, hW2⟩
  have HW2 := Lib.hid (below_next HW1.out hW2)
  clear hW2
  unfold fRet2
  go_wp2_with fail
  refine (H3.out _).mono ?_
  rintro e w3 ⟨rfl, hW3⟩
  have HW3 := Lib.hid (below_next HW2.out hW3)
  clear hW3
  unfold fRet2
  go_wp2_with fail
  refine (apifloat_calls _).mono ?_
  rintro e w' ⟨rfl, rfl⟩
  go_wp2_with fail
  refine (H4.out _).mono ?_
  rintro e w4 ⟨rfl, hW4⟩
  have HW4 := Lib.hid (below_next HW3.out hW4)
  clear hW4
  unfold fRet2
  go_wp2_with fail
  refine (HB1.out _).mono ?_
  rintro e w' ⟨rfl, rfl⟩
  go_wp2_with fail
  refine (HB2.out _).mono ?_
  rintro e w' ⟨rfl, rfl⟩
  go_wp2_with fail
  refine (HNU.out _).mono ?_
  rintro e w' ⟨rfl, rfl⟩
  go_wp2
  go_ret
  exact ⟨rfl, HW4.out⟩
end Go.Proofs.YtikdhkmcdmnadaaGreatFmtBesafter

namespace Go.Proofs.YtikdhkmcdmnadaaGreatFmtBesafter
open Go.RowKit
attribute [local go_sem ↓] Go.wp_at_zero Go.wp_at_succ

/-! ### RoundBound -/
set_option exponentiation.threshold 3000 in
theorem lexact_calls (c : Int) (u v base : Nat) (hu : u < 18446744073709551616) (hv : v < 18446744073709551616) (hc : c = 1 ∨ c = 2 ∨ c = 3) (w : World) (hbase : base ≤ w.heap.size) :
    Calls Tryz.prog 4 #[.int .i64 c, .float .f64 u, .float .f64 v] w fun e w' => ∃ (neg : Bool) (A : Option Addr) (n k : Nat) (x : Int), e = .returned (.tuple #[.agg #[.bool neg, .slice A n k, .int .i64 x], .bool (fin u && fin v)]) ∧ NumC 2148 w' base (if fin u && fin v then exS c u v else 0) neg A n k x ∧ Below w.heap.size w w' := by
  rcases h : (fin u && fin v) with _ | _
  · exact exact_bad c u v base hu hv h w hbase
  · have h1 : fin u = true := by simp at h; exact h.1
    have h2 : fin v = true := by simp at h; exact h.2
    have e1 : numV u = fv u := by unfold numV; rw [h1, if_pos rfl]
    have e2 : numV v = fv v := by unfold numV; rw [h2, if_pos rfl]
    rw [if_pos rfl]
    rcases hc with rfl | rfl | rfl
    · rw [exS_1, ← e1, ← e2]
      exact exact_p u v base hu hv _ (opc_plus u v base hu hv) h1 h2 w hbase
    · rw [exS_2, ← e1, ← e2]
      exact exact_m u v base hu hv _ (opc_minus u v base hu hv) h1 h2 w hbase
    · rw [exS_3, ← e1, ← e2]
      exact exact_t u v base hu hv _ (opc_times u v base hu hv) h1 h2 w hbase
set_option exponentiation.threshold 6000 in
theorem exV_bd (c : Int) {u v : Nat} (hu : u < 18446744073709551616) (hv : v < 18446744073709551616) (hc : c = 1 ∨ c = 2 ∨ c = 3) : (if fin u && fin v then exS c u v else 0).natAbs < 2 ^ 5000 := by
  rcases h : (fin u && fin v) with _ | _
  · exact Nat.pow_pos (by decide)
  · rw [if_pos rfl]
    have b1 := fv_bd hu (by simp at h; exact h.1)
    have b2 := fv_bd hv (by simp at h; exact h.2)
    have e : ∀ x : Int, x.natAbs < 2 ^ 2099 → (x * ((2 ^ 1074 : Nat) : Int)).natAbs < 2 ^ 5000 := by
      intro x hx
      rw [Int.natAbs_mul, Int.natAbs_natCast]
      have h1 := Nat.mul_lt_mul_of_pos_right hx (Nat.pow_pos (n := 1074) (a := 2) (by decide))
      rw [← Nat.pow_add] at h1
      exact Nat.lt_of_lt_of_le h1 (Nat.pow_le_pow_right (by decide) (by decide))
    have e2 : (2 : Nat) ^ 2099 = 2 ^ 2098 * 2 := Nat.pow_succ _ _
    rcases hc with rfl | rfl | rfl
    · rw [exS_1]; refine e _ ?_
      rw [e2]; generalize (2 : Nat) ^ 2098 = P at *; omega
    · rw [exS_2]; refine e _ ?_
      rw [e2]; generalize (2 : Nat) ^ 2098 = P at *; omega
    · rw [exS_3, Int.natAbs_mul]
      refine Nat.lt_of_lt_of_le (Nat.mul_lt_mul'' b1 b2) ?_
      rw [← Nat.pow_add]
      exact Nat.pow_le_pow_right (by decide) (by decide)
set_option exponentiation.threshold 6000 in
def bdS : Int := ((2 ^ 3172 : Nat) : Int) - ((2 ^ 3118 : Nat) : Int)
set_option exponentiation.threshold 6000 in
theorem bd_plain (X : Int) : (rndS 0 2148 X).isSome = decide (Int.sign ((X.natAbs : Int) - bdS) < 0) := by
  rw [near_some (by decide), Bool.eq_iff_iff]
  simp only [decide_eq_true_eq]
  have e1 : (2 : Nat) ^ 3172 = 9007199254740992 * 2 ^ 3119 := by rw [show (9007199254740992 : Nat) = 2 ^ 53 from by decide, ← Nat.pow_add]
  have e2 : (2 : Nat) ^ (2148 + 971) = 2 ^ 3119 := by rw [show 2148 + 971 = 3119 from rfl]
  have e3 : (2 : Nat) ^ 3119 = 2 * 2 ^ 3118 := by rw [← Nat.pow_succ']
  unfold bdS
  rw [e2, e1]
  rw [e3]
  generalize (2 : Nat) ^ 3118 = P
  generalize X.natAbs = N
  constructor
  · intro h
    rw [Int.sign_eq_neg_one_of_neg (by omega)]; decide
  · intro h
    rcases Int.lt_trichotomy ((N : Int) - (((9007199254740992 * (2 * P) : Nat) : Int) - (P : Int))) 0 with h1 | h1 | h1
    · omega
    · rw [h1] at h; exact absurd h (by decide)
    · rw [Int.sign_eq_one_of_pos h1] at h; exact absurd h (by decide)
theorem minus_c (K base L : Nat) (X Y : Int) (n1 n2 : Bool) (A1 A2 : Option Addr) (l1 l2 c1 c2 : Nat) (x1 x2 : Int) (w : World) (hb : base ≤ w.heap.size) (hx : NumC K w base X n1 A1 l1 c1 x1) (hy : NumC K w base Y n2 A2 l2 c2 x2) (hX : X.natAbs < 2 ^ L) (hY : Y.natAbs < 2 ^ L) (hL : L ≤ 1073741824) (hK : K ≤ 1073741824) :
    Calls Tryz.prog 13 #[.agg #[.bool n1, .slice A1 l1 c1, .int .i64 x1], .agg #[.bool n2, .slice A2 l2 c2, .int .i64 x2]] w fun e w' => ∃ (neg : Bool) (A : Option Addr) (n c : Nat) (x : Int), e = .returned (.agg #[.bool neg, .slice A n c, .int .i64 x]) ∧ NumC K w' base (X - Y) neg A n c x ∧ Below w.heap.size w w' := by
  refine (minus_num K base L X Y _ _ w hb hx hy hX hY hL hK).mono ?_
  rintro e w' ⟨cs, rfl, hR, hW⟩
  obtain ⟨neg, A, n, c, x, rfl, hN⟩ := NumC.of hR
  exact ⟨neg, A, n, c, x, rfl, hN, hW⟩
theorem size_c (K base : Nat) (X : Int) (n1 : Bool) (A1 : Option Addr) (l1 c1 : Nat) (x1 : Int) (w : World) (hx : NumC K w base X n1 A1 l1 c1 x1) :
    Calls Tryz.prog 11 #[.agg #[.bool n1, .slice A1 l1 c1, .int .i64 x1]] w fun e w' => ∃ (neg : Bool) (A : Option Addr) (n c : Nat) (x : Int), e = .returned (.agg #[.bool neg, .slice A n c, .int .i64 x]) ∧ NumC K w' base (X.natAbs : Int) neg A n c x ∧ Below w.heap.size w w' := by
  refine (size_calls K base X _ w hx).mono ?_
  rintro e w' ⟨cs, rfl, hR, hW⟩
  obtain ⟨neg, A, n, c, x, rfl, hN⟩ := NumC.of hR
  exact ⟨neg, A, n, c, x, rfl, hN, hW⟩
set_option exponentiation.threshold 6000 in
theorem bd_abs : bdS.natAbs < 2 ^ 5000 ∧ ((2 ^ 3172 : Nat) : Int).natAbs < 2 ^ 5000 ∧ ((2 ^ 3118 : Nat) : Int).natAbs < 2 ^ 5000 := by
  have h1 : (2 : Nat) ^ 3172 < 2 ^ 5000 := Nat.pow_lt_pow_right (by decide) (by decide)
  have h2 : (2 : Nat) ^ 3118 < 2 ^ 5000 := Nat.pow_lt_pow_right (by decide) (by decide)
  unfold bdS
  rw [Int.natAbs_natCast, Int.natAbs_natCast]
  have h3 : (2 : Nat) ^ 3118 ≤ 2 ^ 3172 := Nat.pow_le_pow_right (by decide) (by decide)
  generalize (2 : Nat) ^ 3172 = a at *
  generalize (2 : Nat) ^ 3118 = b at *
  generalize (2 : Nat) ^ 5000 = d at *
  omega
end Go.Proofs.YtikdhkmcdmnadaaGreatFmtBesafter

namespace Go.Proofs.YtikdhkmcdmnadaaGreatFmtBesafter
open Go.RowKit
attribute [local go_sem ↓] Go.wp_at_zero Go.wp_at_succ

/-! ### RoundRises -/
theorem ord_le {d X Y : Int} {x y : Nat} (h : X ≤ Y) (hx : rndS d 2148 X = some x) (hy : rndS d 2148 Y = some y) : ∃ o, Ieee.double.order x y = some o ∧ (o = .lt ∨ o = .eq) := by
  obtain ⟨a, r, b, s, rfl, rfl, hr, hs, hle⟩ := rnd_mono (by decide) h d hx hy
  refine ⟨_, order_sgn hr hs, ?_⟩
  rcases Int.lt_or_eq_of_le hle with h | h
  · rw [Int.compare_eq_lt.2 h]; exact .inl rfl
  · rw [Int.compare_eq_eq.2 h]; exact .inr rfl
theorem asked_some {c d : Int} {u v : Nat} {x : Nat} (h : askS c d u v = some x) : (fin u && fin v) = true ∧ rndS d 2148 (exS c u v) = some x := by
  rcases hp : pairB d u v with _ | _
  · rw [ask_false hp] at h; cases h
  · rw [ask_true hp] at h
    have := pairB_true hp
    rw [this.1, this.2.1]
    exact ⟨rfl, h⟩
end Go.Proofs.YtikdhkmcdmnadaaGreatFmtBesafter
