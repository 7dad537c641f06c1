/- Walks and plain laws of this seat's functions, part 12: S1 S2 S3. -/
import Derived.Test.YtikdhkmcdmnadaaGreatFmtJ08
import Derived.Test.YtikdhkmcdmnadaaGreatFmtJ11
set_option linter.unusedVariables false
set_option linter.unusedSimpArgs false
namespace Go.Proofs.YtikdhkmcdmnadaaGreatFmt
open Go.RowKit

/-! ### numbers by sign and rung: the nearest, how it stands to the real, the one beside it -/
def wordR (neg : Bool) (r : Nat) : Nat := if neg then r + 9223372036854775808 else r
/-- the rung nearest to h halves of 2^e (and a rest) -/
def r0R (h : Nat) (rest : Bool) (e : Int) : Nat := (e + 1074).toNat * 4503599627370496 + h / 2 + (moreH 0 false rest h).toNat
def nearR (h : Nat) (rest : Bool) (e : Int) : Nat := min (r0R h rest e) INFR
/-- is it above (1), below (-1), or exact? -/
def accR (neg : Bool) (h : Nat) (rest : Bool) (e : Int) : Int :=
  if INFR ≤ r0R h rest e then (if neg then -1 else 1)
  else if h % 2 = 0 ∧ rest = false then 0 else if moreH 0 false rest h != neg then 1 else -1
def upR (neg : Bool) (r : Nat) : Bool × Nat := if neg then (if r = 0 then (false, 1) else (true, r - 1)) else (false, if r = INFR then r else r + 1)
def downR (neg : Bool) (r : Nat) : Bool × Nat := if neg then (true, if r = INFR then r else r + 1) else (if r = 0 then (true, 1) else (false, r - 1))
/-- what side tells of the nearest one -/
def sideS (d : Int) (neg : Bool) (r : Nat) (c : Int) : Option Nat :=
  let p := if d = 1 ∧ c < 0 then upR neg r else if d = 2 ∧ 0 < c then downR neg r else (neg, r)
  if INFR ≤ p.2 then none else some (sgnR p.1 p.2)
theorem moreH_zero (neg rest : Bool) (h : Nat) : moreH 0 neg rest h = moreH 0 false rest h := by unfold moreH; simp
theorem side_spec {d : Int} (hd : 0 ≤ d ∧ d ≤ 2) (neg rest : Bool) (h : Nat) (e : Int) : sideS d neg (nearR h rest e) (accR neg h rest e) = toldR d neg h rest e := by
  unfold sideS toldR outR nearR accR r0R moreH upR downR sgnR INFR MAXB
  obtain ⟨x, hx⟩ : ∃ x, h % 2 = x := ⟨_, rfl⟩
  obtain ⟨y, hy⟩ : ∃ y, h / 2 % 2 = y := ⟨_, rfl⟩
  obtain ⟨L, hL⟩ : ∃ L, (e + 1074).toNat * 4503599627370496 + h / 2 = L := ⟨_, rfl⟩
  rw [hx, hy, hL]
  have hx2 : x < 2 := by omega
  have hy2 : y < 2 := by omega
  clear hx hy hL
  obtain rfl | rfl | rfl : d = 0 ∨ d = 1 ∨ d = 2 := by omega
  all_goals (
    obtain rfl | rfl : x = 0 ∨ x = 1 := by omega
    all_goals (
      obtain rfl | rfl : y = 0 ∨ y = 1 := by omega
      all_goals (
        cases neg <;> cases rest
        all_goals (
          simp
          repeat' split
          all_goals (first | omega | (simp_all; done) | (simp_all; omega))))))
end Go.Proofs.YtikdhkmcdmnadaaGreatFmt

namespace Go.Proofs.YtikdhkmcdmnadaaGreatFmt
open Go.RowKit

/-! ### rungs and their values, in parts of 2^-1074 -/
def rv (r : Nat) : Nat := if r < 4503599627370496 then r else (4503599627370496 + r % 4503599627370496) * 2 ^ (r / 4503599627370496 - 1)
theorem rv_zero : rv 0 = 0 := rfl
theorem rv_at {k q : Nat} (h1 : 4503599627370496 ≤ q ∨ k = 0) (h2 : q ≤ 9007199254740992) : rv (k * 4503599627370496 + q) = q * 2 ^ k := by
  unfold rv
  by_cases h0 : k * 4503599627370496 + q < 4503599627370496
  · rw [if_pos h0]
    have : k = 0 := by omega
    subst this; simp
  · rw [if_neg h0]
    by_cases h3 : q = 9007199254740992
    · have e1 : (k * 4503599627370496 + q) % 4503599627370496 = 0 := by omega
      have e2 : (k * 4503599627370496 + q) / 4503599627370496 - 1 = k + 1 := by omega
      rw [e1, e2, Nat.pow_succ, Nat.mul_comm (2 ^ k) 2, ← Nat.mul_assoc]
      congr 1
      omega
    · have e1 : (k * 4503599627370496 + q) % 4503599627370496 = q - 4503599627370496 := by omega
      have e2 : (k * 4503599627370496 + q) / 4503599627370496 - 1 = k := by omega
      have e3 : 4503599627370496 + (q - 4503599627370496) = q := by omega
      rw [e1, e2, e3]
/-- a rung, by its binade -/
theorem rung_split (r : Nat) : ∃ k q : Nat, r = k * 4503599627370496 + q ∧ (4503599627370496 ≤ q ∨ k = 0) ∧ q < 9007199254740992 := by
  by_cases h : r < 4503599627370496
  · exact ⟨0, r, by omega, .inr rfl, by omega⟩
  · exact ⟨r / 4503599627370496 - 1, 4503599627370496 + r % 4503599627370496, by omega, .inl (by omega), by omega⟩
theorem rv_succ (r : Nat) : rv r < rv (r + 1) := by
  obtain ⟨k, q, rfl, h1, h2⟩ := rung_split r
  rw [Nat.add_assoc, rv_at h1 (by omega), rv_at (q := q + 1) (h1.imp (fun h => by omega) id) (by omega)]
  exact Nat.mul_lt_mul_of_pos_right (by omega) (Nat.pow_pos (by decide))
theorem rv_lt {r s : Nat} (h : r < s) : rv r < rv s := by
  obtain ⟨d, rfl⟩ : ∃ d, s = r + d + 1 := ⟨s - r - 1, by omega⟩
  clear h
  induction d with
  | zero => exact rv_succ r
  | succ d ih => exact Nat.lt_trans ih (rv_succ _)
theorem rv_le {r s : Nat} (h : r ≤ s) : rv r ≤ rv s := by
  rcases Nat.lt_or_eq_of_le h with h | h
  · exact Nat.le_of_lt (rv_lt h)
  · rw [h]; exact Nat.le_refl _
theorem rv_lt_iff {r s : Nat} : rv r < rv s ↔ r < s := ⟨fun h => by rcases Nat.lt_or_ge r s with h2 | h2; exact h2; have := rv_le h2; omega, rv_lt⟩
theorem rv_inj {r s : Nat} (h : rv r = rv s) : r = s := by
  rcases Nat.lt_trichotomy r s with h2 | h2 | h2
  · have := rv_lt h2; omega
  · exact h2
  · have := rv_lt h2; omega
theorem word_lt {neg : Bool} {r : Nat} (h : r < 9223372036854775808) : wordR neg r < 18446744073709551616 := by unfold wordR; split <;> omega
theorem word_abs {neg : Bool} {r : Nat} (h : r < 9223372036854775808) : uabs (wordR neg r) = r := by unfold uabs wordR; split <;> omega
theorem word_neg {neg : Bool} {r : Nat} (h : r < 9223372036854775808) : fneg (wordR neg r) = neg := by
  unfold fneg wordR
  cases neg
  · simp; omega
  · simp; omega
theorem word_fexp {neg : Bool} {r : Nat} (h : r < 9223372036854775808) : fexp (wordR neg r) = r / 4503599627370496 := by
  unfold fexp wordR; split <;> omega
theorem word_fin {neg : Bool} {r : Nat} (h : r < INFR) : fin (wordR neg r) = true := by
  simp only [INFR] at h
  unfold fin; rw [word_fexp (by omega)]; simp; omega
/-- any finite number is such a word -/
theorem word_of {u : Nat} (hu : u < 18446744073709551616) (hf : fin u = true) : u = wordR (fneg u) (uabs u) ∧ uabs u < INFR := by
  have h2 : fexp u ≠ 2047 := by simpa [fin] using hf
  unfold fexp at h2
  constructor
  · unfold wordR fneg uabs
    by_cases h : u / 9223372036854775808 = 1
    · rw [if_pos (by simpa using h)]; omega
    · rw [if_neg (by simpa using h)]; omega
  · unfold uabs INFR; omega
theorem fv_word {neg : Bool} {r : Nat} (h : r < INFR) : fv (wordR neg r) = sg neg (rv r) := by
  simp only [INFR] at h
  have h63 : r < 9223372036854775808 := by omega
  rw [fv_eq, word_neg h63]
  congr 1
  have e0 := word_fexp (neg := neg) h63
  have e1 : wordR neg r % 4503599627370496 = r % 4503599627370496 := by unfold wordR; split <;> omega
  unfold fman uexp rv
  rw [e0, e1]
  by_cases h0 : r < 4503599627370496
  · rw [if_pos (by omega), if_pos h0, show max (r / 4503599627370496) 1 - 1 = 0 from by omega, Nat.pow_zero, Nat.mul_one]; omega
  · rw [if_neg (by omega), if_neg h0, show max (r / 4503599627370496) 1 - 1 = r / 4503599627370496 - 1 from by omega, Nat.add_comm]
/-- by its sign and rung -/
def sval (neg : Bool) (r : Nat) : Int := if neg then -(r : Int) else r
theorem cmp_sg {a b : Bool} {r s : Nat} : compare (sg a (rv r)) (sg b (rv s)) = compare (sval a r) (sval b s) := by
  have key : ∀ {x y x' y' : Int}, (x < y ↔ x' < y') → (x = y ↔ x' = y') → compare x y = compare x' y' := by
    intro x y x' y' h1 h2
    rcases Int.lt_trichotomy x y with h | h | h
    · rw [Int.compare_eq_lt.2 h, Int.compare_eq_lt.2 (h1.1 h)]
    · rw [Int.compare_eq_eq.2 h, Int.compare_eq_eq.2 (h2.1 h)]
    · have h3 : y' < x' := by
        rcases Int.lt_trichotomy x' y' with h' | h' | h'
        · have := h1.2 h'; omega
        · have := h2.2 h'; omega
        · exact h'
      rw [Int.compare_eq_gt.2 h, Int.compare_eq_gt.2 h3]
  have z : ∀ r : Nat, rv r = 0 ↔ r = 0 := fun r => ⟨fun h => rv_inj (h.trans rv_zero.symm), fun h => by rw [h]; rfl⟩
  have h1 : rv r < rv s ↔ r < s := rv_lt_iff
  have h2 : rv s < rv r ↔ s < r := rv_lt_iff
  have h3 : rv r = rv s ↔ r = s := ⟨rv_inj, fun h => by rw [h]⟩
  have z1 := z r
  have z2 := z s
  apply key
  · cases a <;> cases b <;> simp [sg, sval] <;> omega
  · cases a <;> cases b <;> simp [sg, sval] <;> omega
theorem read_inf (neg : Bool) : Ieee.double.read (wordR neg INFR) = .infinity neg := by
  rw [read_bad (word_lt (by decide)) (by cases neg <;> decide)]
  cases neg
  · rw [if_pos (by decide)]; rfl
  · rw [if_pos (by decide)]; rfl
theorem order_word {a b : Bool} {r s : Nat} (hr : r ≤ INFR) (hs : s ≤ INFR) : Ieee.double.order (wordR a r) (wordR b s) = some (compare (sval a r) (sval b s)) := by
  have hi : INFR < 9223372036854775808 := by decide
  by_cases h1 : r = INFR
  · subst h1
    by_cases h2 : s = INFR
    · subst h2
      unfold Ieee.Format.order
      rw [read_inf, read_inf]
      cases a <;> cases b <;> rfl
    · unfold Ieee.Format.order
      rw [read_inf, read_fin (word_lt (by omega)) (word_fin (by omega))]
      simp only [Ieee.Datum.order]
      cases a
      · have : compare (sval false INFR) (sval b s) = .gt := by rw [Int.compare_eq_gt]; cases b <;> simp [sval, INFR] <;> simp only [INFR] at * <;> omega
        rw [this]; rfl
      · have : compare (sval true INFR) (sval b s) = .lt := by rw [Int.compare_eq_lt]; cases b <;> simp [sval, INFR] <;> simp only [INFR] at * <;> omega
        rw [this]; rfl
  · by_cases h2 : s = INFR
    · subst h2
      unfold Ieee.Format.order
      rw [read_inf, read_fin (word_lt (by omega)) (word_fin (by omega))]
      simp only [Ieee.Datum.order]
      cases b
      · have : compare (sval a r) (sval false INFR) = .lt := by rw [Int.compare_eq_lt]; cases a <;> simp [sval, INFR] <;> simp only [INFR] at * <;> omega
        rw [this]; rfl
      · have : compare (sval a r) (sval true INFR) = .gt := by rw [Int.compare_eq_gt]; cases a <;> simp [sval, INFR] <;> simp only [INFR] at * <;> omega
        rw [this]; rfl
    · rw [order_fin (word_lt (by omega)) (word_lt (by omega)) (word_fin (by omega)) (word_fin (by omega)), fv_word (by omega), fv_word (by omega), cmp_sg]
end Go.Proofs.YtikdhkmcdmnadaaGreatFmt

namespace Go.Proofs.YtikdhkmcdmnadaaGreatFmt
open Go.RowKit

/-! ### the nearest word, by Ieee's own text -/
theorem log2_bl {m : Nat} (h : m ≠ 0) : m.log2 + 1 = bl m := by unfold bl; rw [if_neg h]
theorem near_kept {neg : Bool} {mag D h : Nat} {rest : Bool} (hm : mag ≠ 0) (hD : 0 < D) (hh : mag / 2 ^ (D - 1) = h) (hr : restB (mag % 2 ^ (D - 1)) = rest) : Ieee.Toward.even.cut neg mag D = h / 2 + (moreH 0 false rest h).toNat := by
  unfold Ieee.Toward.cut
  have hl := Nat.lt_log2_self (n := mag)
  by_cases h1 : D ≤ mag.log2 + 2
  · have e0 : min D (mag.log2 + 2) = D := by omega
    simp only [e0, Nat.one_shiftLeft]
    have e2 : 2 ^ D = 2 ^ (D - 1) * 2 := by rw [← Nat.pow_succ]; congr 1; omega
    have e3 : mag / 2 ^ D = h / 2 := by rw [e2, ← Nat.div_div_eq_div_mul, hh]
    have e4 : mag % 2 ^ D = mag % 2 ^ (D - 1) + 2 ^ (D - 1) * (h % 2) := by rw [e2, Nat.mod_mul, hh]
    have hlt := Nat.mod_lt mag (Nat.pow_pos (n := D - 1) (show 0 < 2 by decide))
    rw [e3, e4, e2, ← hr]
    congr 1
    congr 1
    unfold moreH restB
    generalize mag % 2 ^ (D - 1) = x at *
    generalize 2 ^ (D - 1) = p at *
    rcases Nat.mod_two_eq_zero_or_one h with hq | hq
    · rw [hq]; simp; omega
    · rw [hq]
      by_cases hx : x = 0
      · subst hx
        have : (p * 2 == 2 * (0 + p * 1)) = true := by simp; omega
        have h5 : ¬ p * 2 < 2 * (0 + p * 1) := by omega
        simp [this, h5]
        rw [Bool.eq_iff_iff]; simp
        omega
      · have h5 : p * 2 < 2 * (x + p) := by omega
        simp [h5, hx]
  · have e0 : min D (mag.log2 + 2) = mag.log2 + 2 := by omega
    simp only [e0, Nat.one_shiftLeft]
    have hb : mag < 2 ^ (mag.log2 + 1) := hl
    have e2 : 2 ^ (mag.log2 + 2) = 2 ^ (mag.log2 + 1) * 2 := by rw [← Nat.pow_succ]
    have e3 : mag / 2 ^ (mag.log2 + 2) = 0 := Nat.div_eq_of_lt (by omega)
    have e4 : mag % 2 ^ (mag.log2 + 2) = mag := Nat.mod_eq_of_lt (by omega)
    have e5 : h = 0 := by
      rw [← hh]
      refine Nat.div_eq_of_lt (Nat.lt_of_lt_of_le hb (Nat.pow_le_pow_right (by decide) (by omega)))
    rw [e3, e4, e5, e2]
    have h5 : ¬ 2 ^ (mag.log2 + 1) * 2 < 2 * mag := by omega
    have h6 : (2 ^ (mag.log2 + 1) * 2 == 2 * mag) = false := by simp; omega
    simp [h5, h6, moreH]
theorem near_spec {K mag : Nat} {place : Int} (neg : Bool) (hm : mag ≠ 0) (hK : 1074 < K) (hp : 0 ≤ place + K) {M s : Nat} (hM : M = mag * 2 ^ (place + K).toNat) (hs : s = shD K M) :
    Ieee.double.nearest neg mag place = wordR neg (nearR (M / 2 ^ (s - 1)) (restB (M % 2 ^ (s - 1))) ((s : Int) - K)) := by
  have hb : bl M = bl mag + (place + K).toNat := by rw [hM, bl_mul_pow hm]
  have hlg := log2_bl hm
  have hlast : max (place + (mag.log2 : Int) - (52 : Nat)) (-1074) = (s : Int) - K := by rw [hs]; unfold shD; omega
  have hs1 : 1 ≤ s := by rw [hs]; unfold shD; omega
  have hge : -1074 ≤ (s : Int) - K := by rw [← hlast]; omega
  unfold Ieee.Format.nearest
  rw [if_neg hm]
  simp only [lp_d, bi_d, inf_d]
  rw [show (Ieee.double.fractionBits) = 52 from rfl, hlast]
  unfold nearR r0R
  have hw : ∀ r, Ieee.double.word neg r = wordR neg r := fun r => by unfold Ieee.Format.word wordR; rw [sw_d]; split <;> omega
  rw [hw, Nat.add_assoc, show (s : Int) - K - -1074 = (s : Int) - K + 1074 from by omega]
  congr 2
  congr 1
  by_cases h : (s : Int) - K ≤ place
  · have e1 : ((s : Int) - K - place).toNat = 0 := by omega
    have e2 : (place - ((s : Int) - K)).toNat = (place + K).toNat - s := by omega
    rw [e1, e2, Nat.shiftLeft_eq]
    unfold Ieee.Toward.cut
    simp only [Nat.zero_min, Nat.one_shiftLeft, Nat.pow_zero, Nat.div_one, Nat.mod_one]
    have e3 : M = mag * 2 ^ ((place + K).toNat - s) * 2 * 2 ^ (s - 1) := by
      rw [hM, Nat.mul_assoc, Nat.mul_assoc, ← Nat.pow_succ', ← Nat.pow_add]; congr 2; omega
    have hp' : 0 < 2 ^ (s - 1) := Nat.pow_pos (by decide)
    rw [e3, Nat.mul_div_cancel _ hp', Nat.mul_mod_left]
    simp [moreH, restB]
  · have e2 : (place - ((s : Int) - K)).toNat = 0 := by omega
    obtain ⟨D, hD⟩ : ∃ D : Nat, ((s : Int) - K - place).toNat = D := ⟨_, rfl⟩
    rw [e2, hD, Nat.shiftLeft_eq, Nat.pow_zero, Nat.mul_one]
    have e4 : 2 ^ (s - 1) = 2 ^ (place + K).toNat * 2 ^ (D - 1) := by rw [← Nat.pow_add]; congr 1; omega
    have hp' : 0 < 2 ^ (place + K).toNat := Nat.pow_pos (by decide)
    refine near_kept hm (by omega) ?_ ?_
    · rw [hM, e4, Nat.mul_comm mag, Nat.mul_div_mul_left _ _ hp']
    · rw [hM, e4, Nat.mul_comm mag, Nat.mul_mod_mul_left]
      unfold restB
      congr 1
      rw [ne_eq, ne_eq, Nat.mul_eq_zero]
      simp only [Nat.ne_of_gt hp', false_or]
/-- a number that is one already -/
theorem near_rv {neg : Bool} {r : Nat} (hr : r < INFR) (h0 : r ≠ 0) : Ieee.double.nearest neg (rv r) (-1074) = wordR neg r := by
  have hm : rv r ≠ 0 := fun h => h0 (rv_inj (h.trans rv_zero.symm))
  rw [near_spec (K := 1075) (M := rv r * 2 ^ 1) (s := shD 1075 (rv r * 2 ^ 1)) neg hm (by decide) (by decide) (by rw [show ((-1074 : Int) + (1075 : Nat)).toNat = 1 from by decide]) rfl]
  suffices hh : nearR (rv r * 2 ^ 1 / 2 ^ (shD 1075 (rv r * 2 ^ 1) - 1)) (restB (rv r * 2 ^ 1 % 2 ^ (shD 1075 (rv r * 2 ^ 1) - 1))) ((shD 1075 (rv r * 2 ^ 1) : Int) - (1075 : Nat)) = r by rw [hh]
  obtain ⟨k, q, hkq, h1, h2⟩ := rung_split r
  have hv : rv r = q * 2 ^ k := by rw [hkq]; exact rv_at h1 (by omega)
  have hq0 : q ≠ 0 := by intro h; rw [h, Nat.zero_mul] at hv; exact hm hv
  rw [hv]
  have hs : shD 1075 (q * 2 ^ k * 2 ^ 1) = k + 1 := by
    unfold shD
    rw [bl_mul_pow (Nat.mul_ne_zero hq0 (Nat.ne_of_gt (Nat.pow_pos (by decide)))), bl_mul_pow hq0]
    have hb1 : bl q ≤ 53 := bl_le_of_lt (by omega)
    rcases h1 with h1 | h1
    · have : bl q = 53 := bl_eq (L := 52) (by omega) (by omega)
      omega
    · omega
  rw [hs]
  have e3 : q * 2 ^ k * 2 ^ 1 = q * 2 * 2 ^ (k + 1 - 1) := by rw [Nat.add_sub_cancel, Nat.mul_assoc, Nat.mul_assoc, Nat.mul_comm (2 ^ k)]
  have hp' : 0 < 2 ^ (k + 1 - 1) := Nat.pow_pos (by decide)
  rw [e3, Nat.mul_div_cancel _ hp', Nat.mul_mod_left]
  unfold nearR r0R
  have hmm : moreH 0 false (restB 0) (q * 2) = false := by simp [moreH]
  rw [hmm]
  simp only [Bool.toNat_false, Nat.add_zero]
  have : (((k + 1 : Nat) : Int) - (1075 : Nat) + 1074).toNat = k := by omega
  rw [this, Nat.mul_div_cancel _ (by decide), ← hkq]
  exact Nat.min_eq_left (Nat.le_of_lt hr)
theorem add_zero_word {neg : Bool} {r : Nat} (hr : r < INFR) : Ieee.double.add (wordR neg r) 0 = some (sgnR neg r) := by
  have hi : INFR < 9223372036854775808 := by decide
  have h63 : r < 9223372036854775808 := by omega
  unfold Ieee.Format.add
  rw [read_fin (word_lt h63) (word_fin hr), read_fin (u := 0) (by decide) (by decide)]
  have e0 : fman 0 = 0 := by decide
  have e1 : uexp 0 = 1 := by decide
  have hux := uexp_lt (word_fin (neg := neg) hr)
  rw [e0, e1, word_neg h63]
  simp only [Ieee.Datum.sum, signed_eq]
  have e2 : min ((uexp (wordR neg r) : Int) - 1075) (((1 : Nat) : Int) - 1075) = -1074 := by omega
  rw [e2]
  have e3 : ((uexp (wordR neg r) : Int) - 1075 - -1074).toNat = uexp (wordR neg r) - 1 := by omega
  have hfv := fv_word (neg := neg) hr
  rw [fv_eq, word_neg h63] at hfv
  rw [e3, hfv, Nat.zero_mul, sg_zero, Int.add_zero, sg_abs]
  simp only [Option.map_some, Option.some.injEq, Ieee.Format.write]
  by_cases h0 : r = 0
  · subst h0
    rw [rv_zero, sg_zero, sgnR_zero]
    unfold Ieee.Format.nearest
    rw [if_pos rfl, if_pos rfl]
    unfold Ieee.Format.word
    have : (neg && fneg 0) = false := by cases neg <;> decide
    rw [this]; rfl
  · have hm : rv r ≠ 0 := fun h => h0 (rv_inj (h.trans rv_zero.symm))
    have h1 : sg neg (rv r) ≠ 0 := by cases neg <;> simp [sg] <;> omega
    have h2 : decide (sg neg (rv r) < 0) = neg := by cases neg <;> simp [sg] <;> omega
    rw [if_neg h1, h2, near_rv hr h0]
    unfold wordR sgnR
    cases neg
    · rfl
    · simp; omega
end Go.Proofs.YtikdhkmcdmnadaaGreatFmt
