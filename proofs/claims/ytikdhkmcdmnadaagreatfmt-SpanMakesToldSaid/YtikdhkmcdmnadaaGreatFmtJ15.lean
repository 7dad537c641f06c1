/- Walks and plain laws of this seat's functions, part 15: S9 S10 S11 S12. -/
import Derived.Test.YtikdhkmcdmnadaaGreatFmtJ14
set_option linter.unusedVariables false
set_option linter.unusedSimpArgs false
namespace Go.Proofs.YtikdhkmcdmnadaaGreatFmt
open Go.RowKit

/-! ### beyond all numbers, and below the least one -/
def hugeS (d : Int) (neg : Bool) : Option Nat := if decide (d = 0) || (decide (d = 1) != neg) then none else some (sgnR neg MAXB)
theorem out_huge {d : Int} (hd : 0 ≤ d ∧ d ≤ 2) {neg inx nm : Bool} {L : Nat} (h : INFR ≤ L) : outR d neg (mrD d neg inx nm) (L + (mrD d neg inx nm).toNat) = hugeS d neg := by
  have h2 : INFR ≤ L + (mrD d neg inx nm).toNat := by omega
  unfold outR hugeS
  rw [if_pos h2]
  unfold mrD
  obtain rfl | rfl | rfl : d = 0 ∨ d = 1 ∨ d = 2 := by omega
  all_goals (cases neg <;> cases inx <;> cases nm <;> rfl)
theorem rnd_huge {K : Nat} (hK : 1074 < K) {d : Int} (hd : 0 ≤ d ∧ d ≤ 2) {X : Int} (h : rv INFR * 2 ^ (K - 1074) ≤ X.natAbs) : rndS d K X = hugeS d (decide (X < 0)) := by
  obtain ⟨L, inx, nm, b, hb⟩ := rndS_brk K hK X
  rw [hb d]
  refine out_huge hd ?_
  rcases Nat.lt_or_ge L INFR with h1 | h1
  · have h2 := Nat.mul_le_mul_right (2 ^ (K - 1074)) (rv_le (r := L + 1) (s := INFR) h1)
    have h3 := b.hi
    generalize rv (L + 1) * 2 ^ (K - 1074) = x at *
    generalize rv INFR * 2 ^ (K - 1074) = y at *
    omega
  · exact h1
theorem rnd_tiny {K : Nat} (hK : 1074 < K) (d : Int) {X : Int} (h0 : X ≠ 0) (h : 2 * X.natAbs < 2 ^ (K - 1074)) :
    rndS d K X = outR d (decide (X < 0)) (mrD d (decide (X < 0)) true false) (mrD d (decide (X < 0)) true false).toNat := by
  have b := brk_over 0 (2 ^ (K - 1074)) X.natAbs (by omega) h
  rw [rv_zero, Nat.zero_mul, Nat.zero_add] at b
  rw [rndS_of hK b d, Nat.zero_add]
/-! ### a quotient, by the rungs on both sides -/
set_option exponentiation.threshold 3000 in
theorem hQ_bd {A B : Nat} (hA : A ≠ 0) (hB : B ≠ 0) : hQ A B < 18014398509481984 ∧ (9007199254740992 ≤ hQ A B ∨ eQ A B = -1074) := by
  have he : -1074 ≤ eQ A B := by unfold eQ; omega
  have a1 := bl_le hA
  have a2 := bl_lt A
  have b1 := bl_le hB
  have b2 := bl_lt B
  have pA := bl_pos hA
  have pB := bl_pos hB
  have hd : 0 < denQ 1075 A B := Nat.mul_pos (Nat.pos_of_ne_zero hB) (Nat.pow_pos (by decide))
  have pw : ∀ {x y : Nat}, x ≤ y → 2 ^ x ≤ 2 ^ y := fun h => Nat.pow_le_pow_right (by decide) h
  -- A below B * 2^(kQ + 1)
  have hk : (A * 2 ^ bl B < B * 2 ^ bl A ∧ kQ A B = (bl A : Int) - bl B - 1) ∨ (B * 2 ^ bl A ≤ A * 2 ^ bl B ∧ kQ A B = (bl A : Int) - bl B) := by
    unfold kQ
    by_cases h : A * 2 ^ bl B < B * 2 ^ bl A
    · rw [if_pos h]; exact .inl ⟨h, rfl⟩
    · rw [if_neg h]; exact .inr ⟨by omega, rfl⟩
  constructor
  · unfold hQ
    rw [Nat.div_lt_iff_lt_mul hd]
    unfold numQ denQ
    have e54 : (18014398509481984 : Nat) = 2 ^ 54 := by decide
    obtain ⟨E, hE⟩ : ∃ E, (eQ A B - 1 + (1075 : Nat)).toNat = E := ⟨_, rfl⟩
    rw [hE, e54]
    have hE1 : kQ A B - 53 + 1075 ≤ (E : Int) := by unfold eQ at hE; omega
    rcases hk with ⟨hk1, hk2⟩ | ⟨hk1, hk2⟩
    · have h1 : A * 2 ^ bl B * 2 ^ 1075 < B * 2 ^ bl A * 2 ^ 1075 := Nat.mul_lt_mul_of_pos_right hk1 (Nat.pow_pos (by decide))
      have h2 : B * 2 ^ bl A * 2 ^ 1075 ≤ B * (2 ^ E * 2 ^ 54 * 2 ^ bl B) := by
        rw [Nat.mul_assoc, ← Nat.pow_add, ← Nat.pow_add, ← Nat.pow_add]
        exact Nat.mul_le_mul_left _ (pw (by omega))
      refine Nat.lt_of_mul_lt_mul_right (a := 2 ^ bl B) ?_
      calc A * 2 ^ 1075 * 2 ^ bl B = A * 2 ^ bl B * 2 ^ 1075 := by rw [Nat.mul_assoc, Nat.mul_comm (2 ^ 1075), ← Nat.mul_assoc]
        _ < B * 2 ^ bl A * 2 ^ 1075 := h1
        _ ≤ B * (2 ^ E * 2 ^ 54 * 2 ^ bl B) := h2
        _ = 2 ^ 54 * (B * 2 ^ E) * 2 ^ bl B := by rw [Nat.mul_comm (2 ^ 54), Nat.mul_assoc B, Nat.mul_assoc B]
    · have h1 : A * 2 ^ 1075 < 2 ^ bl A * 2 ^ 1075 := Nat.mul_lt_mul_of_pos_right a2 (Nat.pow_pos (by decide))
      have h2 : 2 ^ bl A * 2 ^ 1075 ≤ 2 ^ 54 * (2 ^ (bl B - 1) * 2 ^ E) := by
        rw [← Nat.pow_add, ← Nat.pow_add, ← Nat.pow_add]
        exact pw (by omega)
      exact Nat.lt_of_lt_of_le h1 (Nat.le_trans h2 (Nat.mul_le_mul_left _ (Nat.mul_le_mul_right _ b1)))
  · by_cases h : eQ A B = -1074
    · exact .inr h
    · left
      have hee : eQ A B = kQ A B - 52 ∧ -1074 < kQ A B - 52 := by unfold eQ at h ⊢; omega
      unfold hQ
      rw [Nat.le_div_iff_mul_le hd]
      unfold numQ denQ
      have e53 : (9007199254740992 : Nat) = 2 ^ 53 := by decide
      obtain ⟨E, hE⟩ : ∃ E, (eQ A B - 1 + (1075 : Nat)).toNat = E := ⟨_, rfl⟩
      rw [hE, e53]
      have hE1 : kQ A B - 53 + 1075 = (E : Int) := by omega
      rcases hk with ⟨hk1, hk2⟩ | ⟨hk1, hk2⟩
      · have h1 : 2 ^ 53 * (2 ^ bl B * 2 ^ E) ≤ 2 ^ (bl A - 1) * 2 ^ 1075 := by
          rw [← Nat.pow_add, ← Nat.pow_add, ← Nat.pow_add]
          exact pw (by omega)
        exact Nat.le_trans (Nat.mul_le_mul_left _ (Nat.mul_le_mul_right _ (Nat.le_of_lt b2))) (Nat.le_trans h1 (Nat.mul_le_mul_right _ a1))
      · have hpb : 0 < 2 ^ bl B := Nat.pow_pos (by decide)
        refine Nat.le_of_mul_le_mul_right ?_ hpb
        have h1 : B * 2 ^ bl A * 2 ^ 1075 ≤ A * 2 ^ bl B * 2 ^ 1075 := Nat.mul_le_mul_right _ hk1
        calc 2 ^ 53 * (B * 2 ^ E) * 2 ^ bl B = B * (2 ^ 53 * 2 ^ E * 2 ^ bl B) := by rw [Nat.mul_left_comm, Nat.mul_assoc B]
          _ = B * (2 ^ bl A * 2 ^ 1075) := by rw [← Nat.pow_add, ← Nat.pow_add, ← Nat.pow_add]; congr 2; omega
          _ = B * 2 ^ bl A * 2 ^ 1075 := (Nat.mul_assoc _ _ _).symm
          _ ≤ A * 2 ^ bl B * 2 ^ 1075 := h1
          _ = A * 2 ^ 1075 * 2 ^ bl B := by rw [Nat.mul_assoc, Nat.mul_comm (2 ^ bl B), ← Nat.mul_assoc]
end Go.Proofs.YtikdhkmcdmnadaaGreatFmt

namespace Go.Proofs.YtikdhkmcdmnadaaGreatFmt
open Go.RowKit

/-! ### Ieee's quotient of two words -/
theorem fman_pos {neg : Bool} {r : Nat} (hr : r < INFR) (h0 : r ≠ 0) : fman (wordR neg r) ≠ 0 ∧ fman (wordR neg r) * 2 ^ (uexp (wordR neg r) - 1) = rv r := by
  have h := fv_word (neg := neg) hr
  have hi : INFR < 9223372036854775808 := by decide
  rw [fv_eq, word_neg (by omega)] at h
  have h2 : fman (wordR neg r) * 2 ^ (uexp (wordR neg r) - 1) = rv r := by
    have := congrArg Int.natAbs h
    rwa [sg_abs, sg_abs] at this
  refine ⟨fun h3 => ?_, h2⟩
  rw [h3, Nat.zero_mul] at h2
  have := rv_pos h0
  omega
theorem div_word {a b : Bool} {r s : Nat} (hr : r < INFR) (hs : s < INFR) (hr0 : r ≠ 0) (hs0 : s ≠ 0) :
    Ieee.double.div (wordR a r) (wordR b s) = some (wordR (a != b) (nearR (hQ (rv r) (rv s)) (restQ (rv r) (rv s)) (eQ (rv r) (rv s)))) := by
  have hi : INFR < 9223372036854775808 := by decide
  obtain ⟨m1, m2⟩ := fman_pos (neg := a) hr hr0
  obtain ⟨n1, n2⟩ := fman_pos (neg := b) hs hs0
  have u1 := uexp_lt (word_fin (neg := a) hr)
  have u2 := uexp_lt (word_fin (neg := b) hs)
  have hd := div_near (a != b) m1 n1 (ka := uexp (wordR a r) - 1) (kb := uexp (wordR b s) - 1) (by omega) (by omega) (fman_lt _)
  rw [m2, n2] at hd
  unfold Ieee.Format.div
  rw [read_fin (word_lt (by omega)) (word_fin hr), read_fin (word_lt (by omega)) (word_fin hs), word_neg (by omega), word_neg (by omega)]
  simp only [Ieee.Datum.quotient]
  rw [if_neg n1]
  simp only [Option.map_some, Option.some.injEq, Ieee.Format.write]
  rw [show Ieee.double.fractionBits + 2 = 54 from rfl]
  rw [← hd]
  have e1 : (((uexp (wordR a r) - 1 : Nat) : Int)) - 1074 = (uexp (wordR a r) : Int) - 1075 := by omega
  have e2 : (((uexp (wordR b s) - 1 : Nat) : Int)) - 1074 = (uexp (wordR b s) : Int) - 1075 := by omega
  rw [e1, e2]
theorem div_zero_word {a b : Bool} {s : Nat} (hs : s < INFR) (hs0 : s ≠ 0) : Ieee.double.div (wordR a 0) (wordR b s) = some (wordR (a != b) 0) := by
  have hi : INFR < 9223372036854775808 := by decide
  obtain ⟨n1, n2⟩ := fman_pos (neg := b) hs hs0
  unfold Ieee.Format.div
  rw [read_fin (word_lt (by decide)) (word_fin (by decide)), read_fin (word_lt (by omega)) (word_fin hs), word_neg (by decide), word_neg (by omega)]
  have e0 : fman (wordR a 0) = 0 := by cases a <;> decide
  simp only [Ieee.Datum.quotient]
  rw [if_neg n1, e0]
  simp only [Option.map_some, Option.some.injEq, Ieee.Format.write, Nat.zero_shiftLeft, Nat.zero_div, Nat.zero_mod]
  unfold Ieee.Format.nearest
  rw [if_pos (by rfl)]
  have e3 : (a ^^ b) = (a != b) := by cases a <;> cases b <;> rfl
  rw [e3]
  unfold Ieee.Format.word wordR
  rw [sw_d]
/-- turned round -/
theorem neg_word (neg : Bool) {r : Nat} (hr : r < INFR) : uneg (wordR neg r) = wordR (!neg) r := by
  have h63 : r < 9223372036854775808 := by simp only [INFR] at hr; omega
  unfold uneg wordR
  have e : r ^^^ 9223372036854775808 = r + 9223372036854775808 := by
    have := uneg_abs r
    unfold uneg uabs at this
    rwa [Nat.mod_eq_of_lt h63] at this
  cases neg
  · exact e
  · show (r + 9223372036854775808) ^^^ 9223372036854775808 = r
    rw [← e, Nat.xor_assoc, Nat.xor_self, Nat.xor_zero]
end Go.Proofs.YtikdhkmcdmnadaaGreatFmt

namespace Go.Proofs.YtikdhkmcdmnadaaGreatFmt
open Go.RowKit

/-! ### rounding to p bits: the numbers -/
theorem cut_num {K m n k0 p s : Nat} {ex : Int} (hb : bl m = 64 * n) (hn : 0 < n) (hk : (k0 : Int) = ex - ((64 * n : Nat) : Int) + K) (hK : 1074 < K) (hp : (p : Int) = min 53 (ex + 1074)) (hs : s = shD K (m * 2 ^ k0)) :
    m * 2 ^ k0 / 2 ^ (s - 1) = m / 2 ^ (64 * n - p - 1) ∧ restB (m * 2 ^ k0 % 2 ^ (s - 1)) = restB (m % 2 ^ (64 * n - p - 1)) ∧ (s : Int) - K = ex - p := by
  have hm : m ≠ 0 := by intro h; subst h; simp [bl] at hb; omega
  have hbl := bl_mul_pow hm k0
  rw [hb] at hbl
  have hs1 : s = 64 * n + k0 - p := by rw [hs]; unfold shD; rw [hbl]; omega
  have hs2 : s - 1 = (64 * n - p - 1) + k0 := by omega
  have := quot_mul (a := m * 2 ^ k0) (b := 2 ^ (s - 1)) (p := 2 ^ k0) (q := m) (c := 2 ^ (64 * n - p - 1)) (Nat.pow_pos (by decide)) rfl (by rw [hs2, Nat.pow_add])
  exact ⟨this.1, this.2, by omega⟩
theorem cut_low {K m n k0 s : Nat} {ex : Int} (hb : bl m = 64 * n) (hn : 0 < n) (hk : (k0 : Int) = ex - ((64 * n : Nat) : Int) + K) (hK : 1074 < K) (hp : ex + 1074 < 0) (hs : s = shD K (m * 2 ^ k0)) :
    m * 2 ^ k0 / 2 ^ (s - 1) = 0 ∧ restB (m * 2 ^ k0 % 2 ^ (s - 1)) = true ∧ (s : Int) - K = -1074 := by
  have hm : m ≠ 0 := by intro h; subst h; simp [bl] at hb; omega
  have hbl := bl_mul_pow hm k0
  rw [hb] at hbl
  have hs1 : s = K - 1074 := by rw [hs]; unfold shD; rw [hbl]; omega
  have hlt : m * 2 ^ k0 < 2 ^ (s - 1) := Nat.lt_of_lt_of_le (bl_lt _) (Nat.pow_le_pow_right (by decide) (by omega))
  have hpos : 0 < m * 2 ^ k0 := Nat.mul_pos (by omega) (Nat.pow_pos (by decide))
  refine ⟨Nat.div_eq_of_lt hlt, ?_, by omega⟩
  rw [Nat.mod_eq_of_lt hlt]
  unfold restB; simp; omega
theorem cut_edge {m n : Nat} (hb : bl m = 64 * n) (hn : 0 < n) : m / 2 ^ (64 * n - 0 - 1) = 1 := by
  have hm : m ≠ 0 := by intro h; subst h; simp [bl] at hb; omega
  have h1 := bl_lt m
  have h2 := bl_le hm
  rw [hb] at h1 h2
  have e : 2 ^ (64 * n) = 2 * 2 ^ (64 * n - 1) := by rw [← Nat.pow_succ']; congr 1; omega
  rw [e] at h1
  rw [Nat.sub_zero]
  generalize 2 ^ (64 * n - 1) = P at *
  have hP : 0 < P := by omega
  have : m / P < 2 := Nat.div_lt_of_lt_mul (by rw [Nat.mul_comm]; exact h1)
  have : 1 ≤ m / P := (Nat.le_div_iff_mul_le hP).2 (by omega)
  omega
/-- the uppermost word, the halves -/
theorem cut_top {m n p t h : Nat} (hb : bl m = 64 * n) (hn : 0 < n) (hp : 0 < p) (hp2 : p ≤ 53) (ht : t = m / 2 ^ (64 * (n - 1))) (hh : h = m / 2 ^ (64 * n - p - 1)) :
    t / 2 ^ (64 - p) = h / 2 ∧ 2 ^ p ≤ h ∧ h < 2 ^ (p + 1) ∧ 9223372036854775808 ≤ t ∧ t < 18446744073709551616 := by
  have hm : m ≠ 0 := by intro h; subst h; simp [bl] at hb; omega
  have h1 := bl_lt m
  have h2 := bl_le hm
  rw [hb] at h1 h2
  have up : ∀ j, j ≤ 64 * n → m / 2 ^ j < 2 ^ (64 * n - j) := fun j hj => Nat.div_lt_of_lt_mul (by rw [← Nat.pow_add, show j + (64 * n - j) = 64 * n from by omega]; exact h1)
  have lo : ∀ j, j ≤ 64 * n - 1 → 2 ^ (64 * n - 1 - j) ≤ m / 2 ^ j := fun j hj => (Nat.le_div_iff_mul_le (Nat.pow_pos (by decide))).2 (by rw [← Nat.pow_add, show 64 * n - 1 - j + j = 64 * n - 1 from by omega]; exact h2)
  refine ⟨?_, ?_, ?_, ?_, ?_⟩
  · rw [ht, hh, Nat.div_div_eq_div_mul, Nat.div_div_eq_div_mul, ← Nat.pow_add, ← Nat.pow_succ]
    rw [show 64 * (n - 1) + (64 - p) = (64 * n - p - 1).succ from by omega]
  · have := lo (64 * n - p - 1) (by omega)
    rw [show 64 * n - 1 - (64 * n - p - 1) = p from by omega] at this
    rw [hh]; exact this
  · have := up (64 * n - p - 1) (by omega)
    rw [show 64 * n - (64 * n - p - 1) = p + 1 from by omega] at this
    rw [hh]; exact this
  · have := lo (64 * (n - 1)) (by omega)
    rw [show 64 * n - 1 - 64 * (n - 1) = 63 from by omega] at this
    rw [ht]; exact this
  · have := up (64 * (n - 1)) (by omega)
    rw [show 64 * n - 64 * (n - 1) = 64 from by omega] at this
    rw [ht]; exact this
theorem and_high (t j : Nat) (ht : t < 18446744073709551616) (hj : j < 64) : t &&& (18446744073709551615 - (2 ^ j - 1)) = t / 2 ^ j * 2 ^ j := by
  have e : 18446744073709551615 - (2 ^ j - 1) = (2 ^ (64 - j) - 1) <<< j := by
    rw [Nat.shiftLeft_eq, Nat.sub_mul, ← Nat.pow_add, show 64 - j + j = 64 from by omega]
    have := Nat.pow_pos (n := j) (a := 2) (by decide)
    have h2 : 2 ^ j ≤ 2 ^ 64 := Nat.pow_le_pow_right (by decide) (by omega)
    have h3 : (2:Nat) ^ 64 = 18446744073709551616 := by decide
    omega
  have e2 : t / 2 ^ j * 2 ^ j = (t >>> j) <<< j := by rw [Nat.shiftLeft_eq, Nat.shiftRight_eq_div_pow]
  rw [e, e2]
  apply Nat.eq_of_testBit_eq
  intro i
  rw [Nat.testBit_and, Nat.testBit_shiftLeft, Nat.testBit_shiftLeft, Nat.testBit_shiftRight, Nat.testBit_two_pow_sub_one]
  by_cases h : j ≤ i
  · have e3 : j + (i - j) = i := by omega
    rw [e3]
    by_cases h2 : i < 64
    · simp [h]; omega
    · have : t.testBit i = false := Nat.testBit_lt_two_pow (Nat.lt_of_lt_of_le (show t < 2 ^ 64 from ht) (Nat.pow_le_pow_right (by decide) (by omega)))
      rw [this]; simp
  · have : ¬ i ≥ j := by omega
    simp [this]
/-- the rung of a rounded word: X the exponent behind the rounding, W the word -/
theorem enc_word {ex X : Int} {p Q W R : Nat} (hp : (p : Int) = min 53 (ex + 1074)) (hp0 : 0 < p) (hQ1 : 2 ^ (p - 1) ≤ Q) (hQ2 : Q ≤ 2 ^ p) (hR : R = (ex - p + 1074).toNat * 4503599627370496 + Q)
    (hW : (Q = 2 ^ p ∧ X = ex + 1 ∧ W = 9223372036854775808) ∨ (Q < 2 ^ p ∧ X = ex ∧ W = Q * 2 ^ (64 - p))) :
    (1024 < X ↔ INFR ≤ R) ∧ (X < -1021 → ∃ p2 : Nat, (p2 : Int) = 1074 + X ∧ 0 < p2 ∧ p2 < 53 ∧ W / 2 ^ (64 - p2) = R ∧ R < 4503599627370496) ∧
      (-1021 ≤ X → X ≤ 1024 → R = (X + 1022).toNat * 4503599627370496 + W / 2048 % 4503599627370496 ∧ R < INFR) := by
  simp only [INFR]
  by_cases h53 : p = 53
  · subst h53
    have e1 : (2:Nat) ^ (53 - 1) = 4503599627370496 := by decide
    have e2 : (2:Nat) ^ 53 = 9007199254740992 := by decide
    have e3 : (2:Nat) ^ (64 - 53) = 2048 := by decide
    rw [e1] at hQ1
    rw [e2] at hQ2 hW
    rw [e3] at hW
    have hex : -1021 ≤ ex := by omega
    obtain ⟨x, hx⟩ : ∃ x : Nat, ex = (x : Int) - 1021 := ⟨(ex + 1021).toNat, by omega⟩
    subst hx
    have hR' : R = x * 4503599627370496 + Q := by rw [hR]; congr 2; omega
    clear hR e1 e2 e3 hp hex
    rcases hW with ⟨a, rfl, rfl⟩ | ⟨a, rfl, rfl⟩
    · refine ⟨by omega, fun h => by omega, fun h1 h2 => ?_⟩
      have : ((x : Int) - 1021 + 1 + 1022).toNat = x + 2 := by omega
      rw [this]; omega
    · refine ⟨by omega, fun h => by omega, fun h1 h2 => ?_⟩
      have : ((x : Int) - 1021 + 1022).toNat = x + 1 := by omega
      rw [this, Nat.mul_div_cancel _ (by decide)]
      have : Q % 4503599627370496 = Q - 4503599627370496 := by omega
      rw [this]; omega
  · have hlt : p < 53 := by omega
    have hex : ex = (p : Int) - 1074 := by omega
    subst hex
    have hR' : R = Q := by rw [hR, show ((p : Int) - 1074 - p + 1074).toNat = 0 from by omega]; omega
    subst hR'
    have hp52 : (2:Nat) ^ p ≤ 2 ^ 52 := Nat.pow_le_pow_right (by decide) (by omega)
    have e52 : (2:Nat) ^ 52 = 4503599627370496 := by decide
    rw [e52] at hp52
    rcases hW with ⟨a, rfl, rfl⟩ | ⟨a, rfl, rfl⟩
    · refine ⟨by omega, fun h => ⟨p + 1, by omega, by omega, by omega, ?_, ?_⟩, fun h1 h2 => ?_⟩
      · rw [a, show (9223372036854775808 : Nat) = 2 ^ p * 2 ^ (64 - (p + 1)) from by rw [← Nat.pow_add, show p + (64 - (p + 1)) = 63 from by omega]]
        exact Nat.mul_div_cancel _ (Nat.pow_pos (by decide))
      · rw [a]
        have : (2:Nat) ^ p ≤ 2 ^ 51 := Nat.pow_le_pow_right (by decide) (by omega)
        have e51 : (2:Nat) ^ 51 = 2251799813685248 := by decide
        omega
      · obtain rfl : p = 52 := by omega
        rw [e52] at a
        subst a
        exact ⟨by decide, by decide⟩
    · exact ⟨by omega, fun h => ⟨p, by omega, by omega, by omega, Nat.mul_div_cancel _ (Nat.pow_pos (by decide)), by omega⟩, fun h1 h2 => by omega⟩
theorem andNot_low {t j : Nat} (ht : t < 18446744073709551616) (hj : j < 64) : bits .andNot .u64 (t : Int) ((2 ^ j - 1 : Nat) : Int) = ((t / 2 ^ j * 2 ^ j : Nat) : Int) := by
  have h2 : 2 ^ j ≤ 2 ^ 64 := Nat.pow_le_pow_right (by decide) (by omega)
  have h3 : (2:Nat) ^ 64 = 18446744073709551616 := by decide
  rw [u64_andNot_nat _ _ ht (by omega), and_high t j ht hj]
theorem carry_iff {t p q : Nat} (ht : t / 2 ^ (64 - p) = q) (hp : p ≤ 64) : t + 2 ^ (64 - p) < 18446744073709551616 ↔ q + 1 < 2 ^ p := by
  have hP : 0 < 2 ^ (64 - p) := Nat.pow_pos (by decide)
  have e : (18446744073709551616 : Nat) = 2 ^ p * 2 ^ (64 - p) := by rw [← Nat.pow_add, show p + (64 - p) = 64 from by omega]
  rw [e, ← Nat.div_lt_iff_lt_mul hP, Nat.add_div_right _ hP, ht]
theorem inc_word {t p q : Nat} (ht : t / 2 ^ (64 - p) = q) : (t + 2 ^ (64 - p)) / 2 ^ (64 - p) = q + 1 := by
  rw [Nat.add_div_right _ (Nat.pow_pos (by decide)), ht]
end Go.Proofs.YtikdhkmcdmnadaaGreatFmt

namespace Go.Proofs.YtikdhkmcdmnadaaGreatFmt
open Go.RowKit

/-! ### the greater real has no lesser number -/
theorem Brk.scale {N D L : Nat} {inx nm : Bool} (b : Brk N D L inx nm) {c : Nat} (hc : 0 < c) : Brk (N * c) (D * c) L inx nm := by
  obtain ⟨h1, h2, h3, h4⟩ := b
  refine ⟨?_, ?_, ?_, ?_⟩
  · rw [← Nat.mul_assoc]; exact Nat.mul_le_mul_right _ h1
  · rw [← Nat.mul_assoc]; exact Nat.mul_lt_mul_of_pos_right h2 hc
  · rw [h3, ← Nat.mul_assoc, Bool.eq_iff_iff]
    simp only [decide_eq_true_eq]
    exact ⟨fun h e => h (Nat.eq_of_mul_eq_mul_right hc e), fun h e => h (by rw [e])⟩
  · rw [h4, ← Nat.mul_assoc (rv L + rv (L + 1)), ← Nat.mul_assoc 2, Bool.eq_iff_iff]
    simp only [Bool.or_eq_true, Bool.and_eq_true, decide_eq_true_eq]
    have e1 : (rv L + rv (L + 1)) * D * c < 2 * N * c ↔ (rv L + rv (L + 1)) * D < 2 * N := Nat.mul_lt_mul_right hc
    have e2 : (rv L + rv (L + 1)) * D * c = 2 * N * c ↔ (rv L + rv (L + 1)) * D = 2 * N := ⟨fun e => Nat.eq_of_mul_eq_mul_right hc e, fun e => by rw [e]⟩
    rw [e1, e2]
theorem brk_mono {N1 N2 D L1 L2 : Nat} {i1 n1 i2 n2 : Bool} (b1 : Brk N1 D L1 i1 n1) (b2 : Brk N2 D L2 i2 n2) (h : N1 ≤ N2) (d : Int) (neg : Bool) :
    L1 + (mrD d neg i1 n1).toNat ≤ L2 + (mrD d neg i2 n2).toNat := by
  have hL : L1 ≤ L2 := by
    rcases Nat.lt_or_ge L2 L1 with h2 | h2
    · have h3 : rv (L2 + 1) * D ≤ rv L1 * D := Nat.mul_le_mul_right _ (rv_le h2)
      have := b1.lo
      have := b2.hi
      omega
    · exact h2
  have hb : ∀ b : Bool, b.toNat ≤ 1 := by decide
  rcases Nat.lt_or_eq_of_le hL with h2 | rfl
  · have := hb (mrD d neg i1 n1); omega
  · have x1 : i1 = true → i2 = true := by
      rw [b1.ix, b2.ix]; simp only [decide_eq_true_eq]
      have := b1.lo
      intro h1 h2; omega
    have x2 : n1 = true → n2 = true := by
      rw [b1.nr, b2.nr]; simp only [Bool.or_eq_true, Bool.and_eq_true, decide_eq_true_eq]
      generalize (rv L1 + rv (L1 + 1)) * D = M
      intro h1; omega
    have : mrD d neg i1 n1 = true → mrD d neg i2 n2 = true := by
      unfold mrD; simp only [Bool.or_eq_true, Bool.and_eq_true]
      intro h1
      rcases h1 with ⟨h1, h2⟩ | ⟨h1, h2⟩
      · exact .inl ⟨h1, x2 h2⟩
      · exact .inr ⟨h1, x1 h2⟩
    rcases hx : mrD d neg i1 n1 with _ | _
    · simp
    · rw [this hx]; exact Nat.le_refl _
theorem outR_some {d : Int} {neg more : Bool} {r x : Nat} (h : outR d neg more r = some x) : x = sgnR neg (min r MAXB) ∧ min r MAXB < INFR := by
  unfold outR at h
  by_cases h1 : INFR ≤ r
  · rw [if_pos h1] at h
    split at h
    · cases h
    · injection h with h
      simp only [INFR, MAXB] at *
      rw [Nat.min_eq_right (by omega)]
      exact ⟨h.symm, by omega⟩
  · rw [if_neg h1] at h
    injection h with h
    simp only [INFR, MAXB] at *
    rw [Nat.min_eq_left (by omega)]
    exact ⟨h.symm, by omega⟩
theorem sgn_word (neg : Bool) (r : Nat) : sgnR neg r = wordR (neg && decide (0 < r)) r := rfl
theorem sval_sgn (neg : Bool) (r : Nat) : sval (neg && decide (0 < r)) r = sval neg r := by
  unfold sval
  cases neg
  · rfl
  · by_cases h : 0 < r
    · simp [h]
    · have : r = 0 := by omega
      subst this; rfl
theorem order_sgn {a b : Bool} {r s : Nat} (hr : r < INFR) (hs : s < INFR) : Ieee.double.order (sgnR a r) (sgnR b s) = some (compare (sval a r) (sval b s)) := by
  rw [sgn_word, sgn_word, order_word (Nat.le_of_lt hr) (Nat.le_of_lt hs), sval_sgn, sval_sgn]
/-- told of two reals over one denominator, of which the first is not the greater -/
theorem told_mono {N1 N2 D L1 L2 : Nat} {i1 n1 i2 n2 : Bool} (b1 : Brk N1 D L1 i1 n1) (b2 : Brk N2 D L2 i2 n2) {s1 s2 : Bool} (h : sg s1 N1 ≤ sg s2 N2) (z1 : s1 = true → N1 ≠ 0) (z2 : s2 = true → N2 ≠ 0) (d : Int) {x y : Nat}
    (hx : outR d s1 (mrD d s1 i1 n1) (L1 + (mrD d s1 i1 n1).toNat) = some x) (hy : outR d s2 (mrD d s2 i2 n2) (L2 + (mrD d s2 i2 n2).toNat) = some y) :
    ∃ a r b s, x = sgnR a r ∧ y = sgnR b s ∧ r < INFR ∧ s < INFR ∧ sval a r ≤ sval b s := by
  obtain ⟨h1, h2⟩ := outR_some hx
  obtain ⟨h3, h4⟩ := outR_some hy
  refine ⟨_, _, _, _, h1, h3, h2, h4, ?_⟩
  cases s1 <;> cases s2
  · have hN : N1 ≤ N2 := by have h' : (N1 : Int) ≤ (N2 : Int) := h; omega
    have := brk_mono b1 b2 hN d false
    simp only [sval, Bool.false_eq_true, if_false]; omega
  · exfalso
    have := z2 rfl
    have h' : (N1 : Int) ≤ -(N2 : Int) := h
    omega
  · simp only [sval, Bool.false_eq_true, if_false, if_true]; omega
  · have hN : N2 ≤ N1 := by have h' : -(N1 : Int) ≤ -(N2 : Int) := h; omega
    have := brk_mono b2 b1 hN d true
    simp only [sval, if_true]; omega
theorem sg_self (X : Int) : sg (decide (X < 0)) X.natAbs = X := by
  unfold sg
  by_cases h : X < 0 <;> simp [h] <;> omega
theorem rnd_mono {K : Nat} (hK : 1074 < K) {X Y : Int} (h : X ≤ Y) (d : Int) {x y : Nat} (hx : rndS d K X = some x) (hy : rndS d K Y = some y) :
    ∃ a r b s, x = sgnR a r ∧ y = sgnR b s ∧ r < INFR ∧ s < INFR ∧ sval a r ≤ sval b s := by
  obtain ⟨L1, i1, n1, b1, h1⟩ := rndS_brk K hK X
  obtain ⟨L2, i2, n2, b2, h2⟩ := rndS_brk K hK Y
  rw [h1] at hx
  rw [h2] at hy
  refine told_mono b1 b2 (by rw [sg_self, sg_self]; exact h) ?_ ?_ d hx hy
  · intro h; simp at h; omega
  · intro h; simp at h; omega
/-! ### a quotient's number -/
def qS (d : Int) (neg : Bool) (A B : Nat) : Option Nat := toldR d neg (hQ A B) (restQ A B) (eQ A B)
set_option exponentiation.threshold 3000 in
theorem quot_brk {A B : Nat} (hA : A ≠ 0) (hB : B ≠ 0) : Brk (A * 2 ^ 1074) B ((eQ A B + 1074).toNat * 4503599627370496 + hQ A B / 2) (decide (hQ A B % 2 = 1) || restQ A B) (moreH 0 false (restQ A B) (hQ A B)) := by
  obtain ⟨h1, h2⟩ := hQ_bd hA hB
  have e1 : numQ 1075 A = 2 * (A * 2 ^ 1074) := by
    unfold numQ
    rw [Nat.pow_succ, ← Nat.mul_assoc, Nat.mul_comm]
  have e2 : denQ 1075 A B = B * 2 ^ (eQ A B + 1074).toNat := by
    unfold denQ
    rw [show eQ A B - 1 + ((1075 : Nat) : Int) = eQ A B + 1074 from by omega]
  refine brk_told (Nat.pos_of_ne_zero hB) ?_ ?_ h1 h2
  · rw [hQ, e1, e2]
  · rw [restQ, e1, e2]
theorem qS_brk {A B : Nat} (hA : A ≠ 0) (hB : B ≠ 0) (d : Int) (neg : Bool) : ∃ L inx nm, Brk (A * 2 ^ 1074) B L inx nm ∧ (∀ d neg, qS d neg A B = outR d neg (mrD d neg inx nm) (L + (mrD d neg inx nm).toNat)) := by
  refine ⟨_, _, _, quot_brk hA hB, fun d neg => ?_⟩
  unfold qS toldR
  rw [moreH_mr]
end Go.Proofs.YtikdhkmcdmnadaaGreatFmt
