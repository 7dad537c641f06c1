/- Walks and plain laws of this seat's functions, part 6: R3a R3b. -/
import Derived.Test.YtikdhkmcdmnadaaGreatFmtBesafterJ05
set_option linter.unusedVariables false
set_option linter.unusedSimpArgs false
namespace Go.Proofs.YtikdhkmcdmnadaaGreatFmtBesafter
open Go.RowKit

/-! ### rounding in every direction (0 near, 1 up, 2 down), by rungs: the bits without the sign -/
abbrev INFR : Nat := 9218868437227405312
abbrev MAXB : Nat := 9218868437227405311
def sgnR (neg : Bool) (r : Nat) : Nat := if neg && decide (0 < r) then r + 9223372036854775808 else r
/-- one more than the rung below it: of h halves of a rung (and a rest) -/
def moreH (d : Int) (neg rest : Bool) (h : Nat) : Bool :=
  (decide (d = 0) && decide (h % 2 = 1) && (rest || decide (h / 2 % 2 = 1))) || (((decide (d = 1) && !neg) || (decide (d = 2) && neg)) && (decide (h % 2 = 1) || rest))
def outR (d : Int) (neg more : Bool) (r : Nat) : Option Nat :=
  if INFR ≤ r then (if decide (d = 0) || more || (decide (d = 1) != neg) then none else some (sgnR neg MAXB)) else some (sgnR neg r)
def toldR (d : Int) (neg : Bool) (h : Nat) (rest : Bool) (e : Int) : Option Nat :=
  outR d neg (moreH d neg rest h) ((e + 1074).toNat * 4503599627370496 + h / 2 + (moreH d neg rest h).toNat)
theorem outR_fin {d : Int} {neg more : Bool} {r : Nat} (h : r < INFR) : outR d neg more r = some (sgnR neg r) := by unfold outR; rw [if_neg (by omega)]
theorem outR_none {d : Int} {neg more : Bool} {r : Nat} (h : INFR ≤ r) (h2 : (decide (d = 0) || more || (decide (d = 1) != neg)) = true) : outR d neg more r = none := by unfold outR; rw [if_pos h, if_pos h2]
theorem outR_max {d : Int} {neg more : Bool} {r : Nat} (h : INFR ≤ r) (h2 : (decide (d = 0) || more || (decide (d = 1) != neg)) = false) : outR d neg more r = some (sgnR neg MAXB) := by unfold outR; rw [if_pos h, if_neg (by rw [h2]; simp)]
theorem sgnR_false (r : Nat) : sgnR false r = r := rfl
theorem sgnR_pos {r : Nat} (h : 0 < r) : sgnR true r = r + 9223372036854775808 := by unfold sgnR; simp [h]
theorem sgnR_zero (neg : Bool) : sgnR neg 0 = 0 := by cases neg <;> rfl
theorem wrap_cast (e : Int) (h1 : -1075 ≤ e) (h2 : e ≤ 971) : IntKind.u64.wrap (e + 1075) = e + 1075 := by simp [IntKind.wrap, IntKind.bits, IntKind.signed]; omega
end Go.Proofs.YtikdhkmcdmnadaaGreatFmtBesafter

namespace Go.Proofs.YtikdhkmcdmnadaaGreatFmtBesafter
open Go.RowKit

/-! ### Round in every direction, of X parts of 2^-K -/
def rndS (d : Int) (K : Nat) (X : Int) : Option Nat :=
  toldR d (decide (X < 0)) (X.natAbs / 2 ^ (shD K X.natAbs - 1)) (restB (X.natAbs % 2 ^ (shD K X.natAbs - 1))) ((shD K X.natAbs : Int) - K)
theorem shD_zero {K : Nat} : shD K 0 = K - 1074 := by unfold shD; rw [bl_zero]; omega
theorem rndS_zero (d : Int) (K : Nat) (hK : 1074 < K) : rndS d K 0 = some 0 := by
  unfold rndS
  rw [Int.natAbs_zero, shD_zero, Nat.zero_div, Nat.zero_mod]
  have e : (((K - 1074 : Nat) : Int) - K + 1074).toNat = 0 := by omega
  have hm : moreH d (decide ((0 : Int) < 0)) (restB 0) 0 = false := by simp [moreH, restB]
  unfold toldR
  rw [hm, e, outR_fin (by decide)]
  rfl
theorem rnd_half {K n : Nat} (hn : n ≠ 0) (hK : 1074 < K) : n / 2 ^ (shD K n - 1) < 18014398509481984 ∧ (9007199254740992 ≤ n / 2 ^ (shD K n - 1) ∨ (shD K n : Int) - K = -1074) := by
  have hk1 : 1 ≤ shD K n := by unfold shD; omega
  have hp : 0 < 2 ^ (shD K n - 1) := Nat.pow_pos (by decide)
  constructor
  · have hb : bl n ≤ shD K n + 53 := by unfold shD; omega
    have hl := bl_lt n
    have : 2 ^ bl n ≤ 2 ^ (shD K n - 1) * 18014398509481984 := by
      rw [show (18014398509481984 : Nat) = 2 ^ 54 from by decide, ← Nat.pow_add]
      exact Nat.pow_le_pow_right (by decide) (by omega)
    rw [Nat.div_lt_iff_lt_mul hp, Nat.mul_comm]
    omega
  · by_cases h : shD K n = K - 1074
    · right; omega
    · left
      have hs : shD K n = bl n - 53 ∧ K - 1074 < bl n - 53 := by unfold shD at h ⊢; omega
      have hl := bl_le hn
      have : 9007199254740992 * 2 ^ (shD K n - 1) ≤ 2 ^ (bl n - 1) := by
        rw [show (9007199254740992 : Nat) = 2 ^ 53 from by decide, ← Nat.pow_add]
        exact Nat.pow_le_pow_right (by decide) (by omega)
      rw [Nat.le_div_iff_mul_le hp]
      omega
theorem rnd_spec {d : Int} {K m k0 : Nat} {neg : Bool} (hm : m ≠ 0) (hK : 1074 < K) {h : Nat} {rest : Bool} {k : Nat} (hk : k = shD K (m * 2 ^ k0)) (hh : h = m * 2 ^ k0 / 2 ^ (k - 1)) (hr : rest = restB (m * 2 ^ k0 % 2 ^ (k - 1))) :
    rndS d K (sg neg (m * 2 ^ k0)) = toldR d neg h rest ((k : Int) - K) ∧ h < 18014398509481984 ∧ (9007199254740992 ≤ h ∨ (k : Int) - K = -1074) := by
  have hn : 0 < m * 2 ^ k0 := Nat.mul_pos (by omega) (Nat.pow_pos (by decide))
  subst hk hh hr
  obtain ⟨h1, h2⟩ := rnd_half (K := K) (n := m * 2 ^ k0) (by omega) hK
  refine ⟨?_, h1, h2⟩
  unfold rndS
  rw [sg_abs]
  have e : decide (sg neg (m * 2 ^ k0) < 0) = neg := by
    generalize m * 2 ^ k0 = n at hn
    cases neg <;> simp [sg] <;> omega
  rw [e]
/-- the scale does not matter -/
theorem rndS_scale (d : Int) {K : Nat} (hK : 1074 < K) (J : Nat) (X : Int) : rndS d (K + J) (X * ((2 ^ J : Nat) : Int)) = rndS d K X := by
  by_cases h0 : X = 0
  · subst h0; rw [Int.zero_mul, rndS_zero d _ (by omega), rndS_zero d _ hK]
  · have hn : X.natAbs ≠ 0 := by omega
    have hp : 0 < 2 ^ J := Nat.pow_pos (by decide)
    have e1 : (X * ((2 ^ J : Nat) : Int)).natAbs = X.natAbs * 2 ^ J := by rw [Int.natAbs_mul, Int.natAbs_natCast]
    have e2 : decide (X * ((2 ^ J : Nat) : Int) < 0) = decide (X < 0) := by
      rw [Bool.eq_iff_iff, decide_eq_true_eq, decide_eq_true_eq]
      have hp' : (0 : Int) < ((2 ^ J : Nat) : Int) := by omega
      constructor
      · intro h
        rcases Int.lt_or_le X 0 with h1 | h1
        · exact h1
        · have := Int.mul_nonneg h1 (Int.le_of_lt hp'); omega
      · exact fun h => Int.mul_neg_of_neg_of_pos h hp'
    have e3 : shD (K + J) (X.natAbs * 2 ^ J) = shD K X.natAbs + J := by unfold shD; rw [bl_mul_pow hn]; omega
    have hs1 : 1 ≤ shD K X.natAbs := by unfold shD; omega
    have e4 : 2 ^ (shD K X.natAbs + J - 1) = 2 ^ (shD K X.natAbs - 1) * 2 ^ J := by rw [← Nat.pow_add]; congr 1; omega
    unfold rndS
    rw [e1, e2, e3, e4, Nat.mul_div_mul_right _ _ hp, Nat.mul_mod_mul_right]
    have e5 : restB (X.natAbs % 2 ^ (shD K X.natAbs - 1) * 2 ^ J) = restB (X.natAbs % 2 ^ (shD K X.natAbs - 1)) := by
      unfold restB; congr 1; rw [ne_eq, ne_eq, Nat.mul_eq_zero]; simp only [Nat.ne_of_gt hp, or_false]
    rw [e5]
    congr 1
    omega
/-- the number of X by d, d any -/
def rndD (d : Int) (K : Nat) (X : Int) : Option Nat := if 0 ≤ d ∧ d ≤ 2 then rndS d K X else none
end Go.Proofs.YtikdhkmcdmnadaaGreatFmtBesafter
