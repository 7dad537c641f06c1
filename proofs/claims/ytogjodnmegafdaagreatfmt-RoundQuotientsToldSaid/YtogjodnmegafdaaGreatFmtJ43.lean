/- Walks and plain laws of this seat's functions, part 43: Q4. -/
import Derived.Test.YtogjodnmegafdaaGreatFmtJ38
import Derived.Test.YtogjodnmegafdaaGreatFmtJ42
set_option linter.unusedVariables false
set_option linter.unusedSimpArgs false
namespace Go.Proofs.YtogjodnmegafdaaGreatFmt
open Go.RowKit
attribute [local go_sem ↓] Go.wp_at_zero Go.wp_at_succ

/-! ### RoundBound -/
set_option exponentiation.threshold 3000 in
theorem lexact_calls (c : Int) (u v base : Nat) (hu : u < 18446744073709551616) (hv : v < 18446744073709551616) (hc : c = 1 ∨ c = 2 ∨ c = 3) (w : World) (hbase : base ≤ w.heap.size) :
    Calls Tryz.prog 17 #[.int .i64 c, .float .f64 u, .float .f64 v] w fun e w' => ∃ (neg : Bool) (A : Option Addr) (n k : Nat) (x : Int), e = .returned (.tuple #[.agg #[.bool neg, .slice A n k, .int .i64 x], .bool (fin u && fin v)]) ∧ NumC 2148 w' base (if fin u && fin v then exS c u v else 0) neg A n k x ∧ Below w.heap.size w w' := by
  rcases h : (fin u && fin v) with _ | _
  · exact exact_bad c u v base hu hv h w hbase
  · have h1 : fin u = true := by simp at h; exact h.1
    have h2 : fin v = true := by simp at h; exact h.2
    have e1 : numV u = fv u := by unfold numV; rw [h1, if_pos rfl]
    have e2 : numV v = fv v := by unfold numV; rw [h2, if_pos rfl]
    rw [if_pos rfl]
    rcases hc with rfl | rfl | rfl
    · rw [exS_1, ← e1, ← e2]
      exact exact_p u v base hu hv _ (opc_plus u v base hu hv) h1 h2 w hbase
    · rw [exS_2, ← e1, ← e2]
      exact exact_m u v base hu hv _ (opc_minus u v base hu hv) h1 h2 w hbase
    · rw [exS_3, ← e1, ← e2]
      exact exact_t u v base hu hv _ (opc_times u v base hu hv) h1 h2 w hbase
set_option exponentiation.threshold 6000 in
theorem exV_bd (c : Int) {u v : Nat} (hu : u < 18446744073709551616) (hv : v < 18446744073709551616) (hc : c = 1 ∨ c = 2 ∨ c = 3) : (if fin u && fin v then exS c u v else 0).natAbs < 2 ^ 5000 := by
  rcases h : (fin u && fin v) with _ | _
  · exact Nat.pow_pos (by decide)
  · rw [if_pos rfl]
    have b1 := fv_bd hu (by simp at h; exact h.1)
    have b2 := fv_bd hv (by simp at h; exact h.2)
    have e : ∀ x : Int, x.natAbs < 2 ^ 2099 → (x * ((2 ^ 1074 : Nat) : Int)).natAbs < 2 ^ 5000 := by
      intro x hx
      rw [Int.natAbs_mul, Int.natAbs_natCast]
      have h1 := Nat.mul_lt_mul_of_pos_right hx (Nat.pow_pos (n := 1074) (a := 2) (by decide))
      rw [← Nat.pow_add] at h1
      exact Nat.lt_of_lt_of_le h1 (Nat.pow_le_pow_right (by decide) (by decide))
    have e2 : (2 : Nat) ^ 2099 = 2 ^ 2098 * 2 := Nat.pow_succ _ _
    rcases hc with rfl | rfl | rfl
    · rw [exS_1]; refine e _ ?_
      rw [e2]; generalize (2 : Nat) ^ 2098 = P at *; omega
    · rw [exS_2]; refine e _ ?_
      rw [e2]; generalize (2 : Nat) ^ 2098 = P at *; omega
    · rw [exS_3, Int.natAbs_mul]
      refine Nat.lt_of_lt_of_le (Nat.mul_lt_mul'' b1 b2) ?_
      rw [← Nat.pow_add]
      exact Nat.pow_le_pow_right (by decide) (by decide)
set_option exponentiation.threshold 6000 in
def bdS : Int := ((2 ^ 3172 : Nat) : Int) - ((2 ^ 3118 : Nat) : Int)
set_option exponentiation.threshold 6000 in
theorem bd_plain (X : Int) : (rndS 0 2148 X).isSome = decide (Int.sign ((X.natAbs : Int) - bdS) < 0) := by
  rw [near_some (by decide), Bool.eq_iff_iff]
  simp only [decide_eq_true_eq]
  have e1 : (2 : Nat) ^ 3172 = 9007199254740992 * 2 ^ 3119 := by rw [show (9007199254740992 : Nat) = 2 ^ 53 from by decide, ← Nat.pow_add]
  have e2 : (2 : Nat) ^ (2148 + 971) = 2 ^ 3119 := by rw [show 2148 + 971 = 3119 from rfl]
  have e3 : (2 : Nat) ^ 3119 = 2 * 2 ^ 3118 := by rw [← Nat.pow_succ']
  unfold bdS
  rw [e2, e1]
  rw [e3]
  generalize (2 : Nat) ^ 3118 = P
  generalize X.natAbs = N
  constructor
  · intro h
    rw [Int.sign_eq_neg_one_of_neg (by omega)]; decide
  · intro h
    rcases Int.lt_trichotomy ((N : Int) - (((9007199254740992 * (2 * P) : Nat) : Int) - (P : Int))) 0 with h1 | h1 | h1
    · omega
    · rw [h1] at h; exact absurd h (by decide)
    · rw [Int.sign_eq_one_of_pos h1] at h; exact absurd h (by decide)
theorem moved_c (K K' base L : Nat) (m X : Int) (neg : Bool) (A : Option Addr) (n c : Nat) (x : Int) (w : World) (h : NumC K w base X neg A n c x) (hK : (K' : Int) = K - m) (hm : -1073741824 ≤ m ∧ m ≤ 1073741824) (hL : L ≤ 1073741824) (hX : X.natAbs < 2 ^ L) (hK1 : K ≤ 1073741824) (hK2 : K' ≤ 1073741824) :
    Calls Tryz.prog 25 #[.agg #[.bool neg, .slice A n c, .int .i64 x], .int .i64 m] w fun e w' => ∃ (neg : Bool) (A : Option Addr) (n c : Nat) (x : Int), e = .returned (.agg #[.bool neg, .slice A n c, .int .i64 x]) ∧ NumC K' w' base X neg A n c x ∧ Below w.heap.size w w' := by
  refine (moved_calls K K' base m X _ w h hK hm L hL hX hK1 hK2).mono ?_
  rintro e w' ⟨cs, rfl, hR, hW⟩
  obtain ⟨neg, A, n, c, x, rfl, hN⟩ := NumC.of hR
  exact ⟨neg, A, n, c, x, rfl, hN, hW⟩
theorem minus_c (K base L : Nat) (X Y : Int) (n1 n2 : Bool) (A1 A2 : Option Addr) (l1 l2 c1 c2 : Nat) (x1 x2 : Int) (w : World) (hb : base ≤ w.heap.size) (hx : NumC K w base X n1 A1 l1 c1 x1) (hy : NumC K w base Y n2 A2 l2 c2 x2) (hX : X.natAbs < 2 ^ L) (hY : Y.natAbs < 2 ^ L) (hL : L ≤ 1073741824) (hK : K ≤ 1073741824) :
    Calls Tryz.prog 22 #[.agg #[.bool n1, .slice A1 l1 c1, .int .i64 x1], .agg #[.bool n2, .slice A2 l2 c2, .int .i64 x2]] w fun e w' => ∃ (neg : Bool) (A : Option Addr) (n c : Nat) (x : Int), e = .returned (.agg #[.bool neg, .slice A n c, .int .i64 x]) ∧ NumC K w' base (X - Y) neg A n c x ∧ Below w.heap.size w w' := by
  refine (minus_num K base L X Y _ _ w hb hx hy hX hY hL hK).mono ?_
  rintro e w' ⟨cs, rfl, hR, hW⟩
  obtain ⟨neg, A, n, c, x, rfl, hN⟩ := NumC.of hR
  exact ⟨neg, A, n, c, x, rfl, hN, hW⟩
theorem size_c (K base : Nat) (X : Int) (n1 : Bool) (A1 : Option Addr) (l1 c1 : Nat) (x1 : Int) (w : World) (hx : NumC K w base X n1 A1 l1 c1 x1) :
    Calls Tryz.prog 21 #[.agg #[.bool n1, .slice A1 l1 c1, .int .i64 x1]] w fun e w' => ∃ (neg : Bool) (A : Option Addr) (n c : Nat) (x : Int), e = .returned (.agg #[.bool neg, .slice A n c, .int .i64 x]) ∧ NumC K w' base (X.natAbs : Int) neg A n c x ∧ Below w.heap.size w w' := by
  refine (size_calls K base X _ w hx).mono ?_
  rintro e w' ⟨cs, rfl, hR, hW⟩
  obtain ⟨neg, A, n, c, x, rfl, hN⟩ := NumC.of hR
  exact ⟨neg, A, n, c, x, rfl, hN, hW⟩
set_option exponentiation.threshold 6000 in
theorem bd_abs : bdS.natAbs < 2 ^ 5000 ∧ ((2 ^ 3172 : Nat) : Int).natAbs < 2 ^ 5000 ∧ ((2 ^ 3118 : Nat) : Int).natAbs < 2 ^ 5000 := by
  have h1 : (2 : Nat) ^ 3172 < 2 ^ 5000 := Nat.pow_lt_pow_right (by decide) (by decide)
  have h2 : (2 : Nat) ^ 3118 < 2 ^ 5000 := Nat.pow_lt_pow_right (by decide) (by decide)
  unfold bdS
  rw [Int.natAbs_natCast, Int.natAbs_natCast]
  have h3 : (2 : Nat) ^ 3118 ≤ 2 ^ 3172 := Nat.pow_le_pow_right (by decide) (by decide)
  generalize (2 : Nat) ^ 3172 = a at *
  generalize (2 : Nat) ^ 3118 = b at *
  generalize (2 : Nat) ^ 5000 = d at *
  omega
end Go.Proofs.YtogjodnmegafdaaGreatFmt
