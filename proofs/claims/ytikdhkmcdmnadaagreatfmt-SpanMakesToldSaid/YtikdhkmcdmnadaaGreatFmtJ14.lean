/- Walks and plain laws of this seat's functions, part 14: S5 S6 S7 S8. -/
import Derived.Test.YtikdhkmcdmnadaaGreatFmtJ12
set_option linter.unusedVariables false
set_option linter.unusedSimpArgs false
namespace Go.Proofs.YtikdhkmcdmnadaaGreatFmt
open Go.RowKit

/-! ### quotients: of A and B parts (of one power of 2) -/
/-- 2^k is at most A / B, 2^(k+1) above it -/
def kQ (A B : Nat) : Int := if A * 2 ^ bl B < B * 2 ^ bl A then (bl A : Int) - bl B - 1 else (bl A : Int) - bl B
def eQ (A B : Nat) : Int := max (kQ A B - 52) (-1074)
/-- halves of 2^eQ in A / B, at the scale 2^J -/
def numQ (J A : Nat) : Nat := A * 2 ^ J
def denQ (J A B : Nat) : Nat := B * 2 ^ (eQ A B - 1 + J).toNat
def hQ (A B : Nat) : Nat := numQ 1075 A / denQ 1075 A B
def restQ (A B : Nat) : Bool := restB (numQ 1075 A % denQ 1075 A B)
/-- the scale does not matter -/
theorem quot_mul {a b p q : Nat} (hp : 0 < p) (ha : a = q * p) {c : Nat} (hb : b = c * p) : a / b = q / c ∧ restB (a % b) = restB (q % c) := by
  subst ha hb
  refine ⟨Nat.mul_div_mul_right _ _ hp, ?_⟩
  rw [Nat.mul_mod_mul_right]
  unfold restB
  congr 1
  rw [ne_eq, ne_eq, Nat.mul_eq_zero]
  simp only [Nat.ne_of_gt hp, or_false]
theorem hQ_scale (A B J : Nat) : hQ A B = numQ (1075 + J) A / denQ (1075 + J) A B ∧ restQ A B = restB (numQ (1075 + J) A % denQ (1075 + J) A B) := by
  have he : -1074 ≤ eQ A B := by unfold eQ; omega
  have := quot_mul (a := numQ (1075 + J) A) (b := denQ (1075 + J) A B) (p := 2 ^ J) (q := numQ 1075 A) (c := denQ 1075 A B) (Nat.pow_pos (by decide))
    (by unfold numQ; rw [Nat.pow_add, Nat.mul_assoc]) (by unfold denQ; rw [Nat.mul_assoc, ← Nat.pow_add]; congr 2; omega)
  exact ⟨this.1.symm, this.2.symm⟩
/-- 'k' by inequalities -/
theorem kQ_iff {A B : Nat} (hA : A ≠ 0) (hB : B ≠ 0) {k : Int} {J : Nat} (hJ : 0 ≤ k + J) (h1 : B * 2 ^ (k + J).toNat ≤ A * 2 ^ J) (h2 : A * 2 ^ J < B * 2 ^ (k + J + 1).toNat) : kQ A B = k := by
  have a1 := bl_le hA
  have a2 := bl_lt A
  have b1 := bl_le hB
  have b2 := bl_lt B
  have pA := bl_pos hA
  have pB := bl_pos hB
  have mono : ∀ {x y : Nat}, 2 ^ x < 2 ^ y → x < y := fun h => (Nat.pow_lt_pow_iff_right (by decide)).1 h
  have eA : 2 ^ bl A = 2 ^ (bl A - 1) * 2 := by rw [← Nat.pow_succ]; congr 1; omega
  -- k is at most bl A - bl B, at least one less
  have u1 : (k + J).toNat + (bl B - 1) < bl A + J := mono (by
    rw [Nat.pow_add, Nat.pow_add]
    calc 2 ^ (k + J).toNat * 2 ^ (bl B - 1) ≤ 2 ^ (k + J).toNat * B := Nat.mul_le_mul_left _ b1
      _ = B * 2 ^ (k + J).toNat := Nat.mul_comm _ _
      _ ≤ A * 2 ^ J := h1
      _ < 2 ^ bl A * 2 ^ J := Nat.mul_lt_mul_of_pos_right a2 (Nat.pow_pos (by decide)))
  have u2 : bl A - 1 + J < (k + J + 1).toNat + bl B := mono (by
    rw [Nat.pow_add, Nat.pow_add]
    calc 2 ^ (bl A - 1) * 2 ^ J ≤ A * 2 ^ J := Nat.mul_le_mul_right _ a1
      _ < B * 2 ^ (k + J + 1).toNat := h2
      _ ≤ 2 ^ bl B * 2 ^ (k + J + 1).toNat := Nat.mul_le_mul_right _ (Nat.le_of_lt b2)
      _ = 2 ^ (k + J + 1).toNat * 2 ^ bl B := Nat.mul_comm _ _)
  unfold kQ
  have hlt : A * 2 ^ bl B < B * 2 ^ bl A ↔ k < (bl A : Int) - bl B := by
    constructor
    · intro h
      rcases Int.lt_or_le k ((bl A : Int) - bl B) with h3 | h3
      · exact h3
      · exfalso
        have e : k = (bl A : Int) - bl B := by omega
        have e2 : (k + J).toNat + bl B = bl A + J := by omega
        have : B * 2 ^ (k + J).toNat * 2 ^ bl B ≤ A * 2 ^ J * 2 ^ bl B := Nat.mul_le_mul_right _ h1
        rw [Nat.mul_assoc, ← Nat.pow_add, e2, Nat.pow_add, ← Nat.mul_assoc, Nat.mul_assoc A, Nat.mul_comm (2 ^ J), ← Nat.mul_assoc] at this
        have h4 := Nat.mul_lt_mul_of_pos_right h (Nat.pow_pos (n := J) (show 0 < 2 by decide))
        omega
    · intro h
      have e2 : (k + J + 1).toNat + bl B = bl A + J := by omega
      have : A * 2 ^ J * 2 ^ bl B < B * 2 ^ (k + J + 1).toNat * 2 ^ bl B := Nat.mul_lt_mul_of_pos_right h2 (Nat.pow_pos (by decide))
      rw [Nat.mul_assoc B, ← Nat.pow_add, e2, Nat.pow_add, ← Nat.mul_assoc, Nat.mul_assoc A, Nat.mul_comm (2 ^ J), ← Nat.mul_assoc] at this
      exact Nat.lt_of_mul_lt_mul_right this
  by_cases h : A * 2 ^ bl B < B * 2 ^ bl A
  · rw [if_pos h]; have := hlt.1 h; omega
  · rw [if_neg h]
    have : ¬ k < (bl A : Int) - bl B := fun h3 => h (hlt.2 h3)
    omega
theorem sticky_div {P b q : Nat} : (2 * (P / b) + (P % b != 0).toNat) / (2 * q) = P / (b * q) ∧ restB ((2 * (P / b) + (P % b != 0).toNat) % (2 * q)) = restB (P % (b * q)) := by
  have hx : (P % b != 0).toNat < 2 := by cases (P % b != 0) <;> decide
  have e1 : (2 * (P / b) + (P % b != 0).toNat) / 2 = P / b := by omega
  have e2 : (2 * (P / b) + (P % b != 0).toNat) % 2 = (P % b != 0).toNat := by omega
  refine ⟨by rw [← Nat.div_div_eq_div_mul, e1, Nat.div_div_eq_div_mul], ?_⟩
  rw [Nat.mod_mul, e1, e2, Nat.mod_mul]
  unfold restB
  rw [Bool.eq_iff_iff, decide_eq_true_eq, decide_eq_true_eq]
  by_cases h : P % b = 0
  · have hb : b = 0 ∨ b ≠ 0 := by omega
    rw [h]
    rcases hb with hb | hb
    · subst hb; simp at h ⊢
    · have hb' : ¬ b = 0 := hb
      simp [Nat.mul_eq_zero, hb']
  · have : (P % b != 0) = true := by simpa using h
    rw [this]; simp [h]
theorem div_near {ma mb ka kb : Nat} (neg : Bool) (hma : ma ≠ 0) (hmb : mb ≠ 0) (hka : ka ≤ 2046) (hkb : kb ≤ 2046) (hb53 : mb < 9007199254740992) :
    Ieee.double.nearest neg (2 * (ma <<< (54 + mb.log2 - ma.log2) / mb) + (ma <<< (54 + mb.log2 - ma.log2) % mb != 0).toNat) ((ka : Int) - 1074 - ((kb : Int) - 1074) - ((54 + mb.log2 - ma.log2 : Nat) : Int) - 1)
      = wordR neg (nearR (hQ (ma * 2 ^ ka) (mb * 2 ^ kb)) (restQ (ma * 2 ^ ka) (mb * 2 ^ kb)) (eQ (ma * 2 ^ ka) (mb * 2 ^ kb))) := by
  obtain ⟨K, hK⟩ : ∃ K : Nat, K = 1075 + 4000 := ⟨_, rfl⟩
  have la := log2_bl hma
  have lb := log2_bl hmb
  have hbb : bl mb ≤ 53 := bl_le_of_lt (by omega)
  obtain ⟨more, hmore⟩ : ∃ more, 54 + mb.log2 - ma.log2 = more := ⟨_, rfl⟩
  rw [hmore, Nat.shiftLeft_eq]
  obtain ⟨P, hP⟩ : ∃ P, ma * 2 ^ more = P := ⟨_, rfl⟩
  rw [hP]
  have hP0 : P ≠ 0 := by rw [← hP]; exact Nat.mul_ne_zero hma (Nat.ne_of_gt (Nat.pow_pos (by decide)))
  have blP : bl P = bl ma + more := by rw [← hP, bl_mul_pow hma]
  have mbp : 0 < mb := Nat.pos_of_ne_zero hmb
  obtain ⟨D, hD⟩ : ∃ D, P / mb = D := ⟨_, rfl⟩
  have hDlow : 2 ^ 53 ≤ D := by
    rw [← hD, Nat.le_div_iff_mul_le mbp]
    have h1 := bl_le hP0
    have h2 := bl_lt mb
    calc 2 ^ 53 * mb ≤ 2 ^ 53 * 2 ^ bl mb := Nat.mul_le_mul_left _ (Nat.le_of_lt h2)
      _ = 2 ^ (53 + bl mb) := (Nat.pow_add _ _ _).symm
      _ ≤ 2 ^ (bl P - 1) := Nat.pow_le_pow_right (by decide) (by omega)
      _ ≤ P := h1
  have hD0 : D ≠ 0 := by intro h; rw [h] at hDlow; exact absurd hDlow (by decide)
  have blD : 54 ≤ bl D := by
    rcases Nat.lt_or_ge (bl D) 54 with h | h
    · have h1 := bl_lt D
      have h2 : 2 ^ bl D ≤ 2 ^ 53 := Nat.pow_le_pow_right (by decide) (by omega)
      omega
    · exact h
  obtain ⟨mag, hmag⟩ : ∃ mag, 2 * (P / mb) + (P % mb != 0).toNat = mag := ⟨_, rfl⟩
  have hx : (P % mb != 0).toNat < 2 := by cases (P % mb != 0) <;> decide
  have hm2 : mag / 2 = D := by rw [← hmag, ← hD]; omega
  have hm0 : mag ≠ 0 := by intro h; rw [h] at hm2; exact hD0 hm2.symm
  have blm : bl mag = bl D + 1 := by rw [← bl_half hm0, hm2]
  have s1 := fun q => sticky_div (P := P) (b := mb) (q := q)
  rw [hmag] at s1 ⊢
  -- k
  have hk : kQ (ma * 2 ^ ka) (mb * 2 ^ kb) = (bl D : Int) - 1 + ka - kb - more := by
    have h1 : mb * D ≤ P := by rw [← hD]; exact Nat.mul_div_le _ _
    have h2 : P < mb * (D + 1) := by rw [← hD]; have := Nat.lt_mul_div_succ P mbp; omega
    have d1 := bl_le hD0
    have d2 := bl_lt D
    have hmm : more ≤ 107 := by omega
    refine kQ_iff (J := K) (Nat.mul_ne_zero hma (Nat.ne_of_gt (Nat.pow_pos (by decide)))) (Nat.mul_ne_zero hmb (Nat.ne_of_gt (Nat.pow_pos (by decide)))) (by omega) ?_ ?_
    · have e1 : mb * 2 ^ kb * 2 ^ ((bl D : Int) - 1 + ka - kb - more + (K : Nat)).toNat = mb * 2 ^ (bl D - 1) * 2 ^ (ka + K - more) := by
        rw [Nat.mul_assoc, ← Nat.pow_add, Nat.mul_assoc, ← Nat.pow_add]; congr 2; omega
      have e2 : ma * 2 ^ ka * 2 ^ K = P * 2 ^ (ka + K - more) := by
        rw [← hP, Nat.mul_assoc, ← Nat.pow_add, Nat.mul_assoc, ← Nat.pow_add]; congr 2; omega
      rw [e1, e2]
      exact Nat.mul_le_mul_right _ (Nat.le_trans (Nat.mul_le_mul_left _ d1) h1)
    · have e1 : mb * 2 ^ kb * 2 ^ ((bl D : Int) - 1 + ka - kb - more + (K : Nat) + 1).toNat = mb * 2 ^ bl D * 2 ^ (ka + K - more) := by
        rw [Nat.mul_assoc, ← Nat.pow_add, Nat.mul_assoc, ← Nat.pow_add]; congr 2; omega
      have e2 : ma * 2 ^ ka * 2 ^ K = P * 2 ^ (ka + K - more) := by
        rw [← hP, Nat.mul_assoc, ← Nat.pow_add, Nat.mul_assoc, ← Nat.pow_add]; congr 2; omega
      rw [e1, e2]
      exact Nat.mul_lt_mul_of_pos_right (Nat.lt_of_lt_of_le h2 (Nat.mul_le_mul_left _ d2)) (Nat.pow_pos (by decide))
  have hmm : more ≤ 107 := by omega
  obtain ⟨P0, hPP⟩ : ∃ P0, ((ka : Int) - 1074 - ((kb : Int) - 1074) - more - 1 + (K : Nat)).toNat = P0 := ⟨_, rfl⟩
  have hs : ((shD K (mag * 2 ^ P0) : Nat) : Int) - (K : Nat) = eQ (ma * 2 ^ ka) (mb * 2 ^ kb) := by
    unfold eQ shD; rw [hk, bl_mul_pow hm0, blm]; omega
  obtain ⟨t, ht⟩ : ∃ t, shD K (mag * 2 ^ P0) = P0 + (t + 2) := ⟨shD K (mag * 2 ^ P0) - P0 - 2, by unfold shD; rw [bl_mul_pow hm0, blm]; omega⟩
  rw [near_spec (K := K) (M := mag * 2 ^ P0) (s := shD K (mag * 2 ^ P0)) neg hm0 (by omega) (by omega) (by rw [hPP]) rfl, hs]
  have hn : numQ K (ma * 2 ^ ka) = P * 2 ^ (ka + K - more) := by
    unfold numQ; rw [← hP, Nat.mul_assoc, ← Nat.pow_add, Nat.mul_assoc, ← Nat.pow_add]; congr 2; omega
  have hd : denQ K (ma * 2 ^ ka) (mb * 2 ^ kb) = mb * 2 ^ t * 2 ^ (ka + K - more) := by
    unfold denQ; rw [← hs, ht, Nat.mul_assoc, ← Nat.pow_add, Nat.mul_assoc, ← Nat.pow_add]; congr 2; omega
  obtain ⟨r1, r2⟩ := quot_mul (Nat.pow_pos (show 0 < 2 by decide)) hn hd
  obtain ⟨q1, q2⟩ := hQ_scale (ma * 2 ^ ka) (mb * 2 ^ kb) 4000
  rw [← hK] at q1 q2
  rw [r1] at q1
  rw [r2] at q2
  rw [q1, q2, ht]
  have e3 : 2 ^ (P0 + (t + 2) - 1) = 2 ^ P0 * (2 * 2 ^ t) := by rw [← Nat.pow_succ', ← Nat.pow_add]; congr 1
  have hp : 0 < 2 ^ P0 := Nat.pow_pos (by decide)
  obtain ⟨w1, w2⟩ := s1 (2 ^ t)
  obtain ⟨v1, v2⟩ := quot_mul (a := mag * 2 ^ P0) (b := 2 ^ (P0 + (t + 2) - 1)) (p := 2 ^ P0) (q := mag) (c := 2 * 2 ^ t) hp rfl (by rw [e3, Nat.mul_comm])
  rw [v1, v2, w1, w2]
end Go.Proofs.YtikdhkmcdmnadaaGreatFmt

namespace Go.Proofs.YtikdhkmcdmnadaaGreatFmt
open Go.RowKit

/-! ### the numbers on both sides of N / D parts of 2^-1074 -/
structure Brk (N D L : Nat) (inx nm : Bool) : Prop where
  lo : rv L * D ≤ N
  hi : N < rv (L + 1) * D
  ix : inx = decide (rv L * D ≠ N)
  nr : nm = (decide ((rv L + rv (L + 1)) * D < 2 * N) || (decide ((rv L + rv (L + 1)) * D = 2 * N) && decide (L % 2 = 1)))
/-- one more than the lower rung, by d -/
def mrD (d : Int) (neg inx nm : Bool) : Bool := (decide (d = 0) && nm) || (((decide (d = 1) && !neg) || (decide (d = 2) && neg)) && inx)
theorem moreH_mr (d : Int) (neg rest : Bool) (h : Nat) : moreH d neg rest h = mrD d neg (decide (h % 2 = 1) || rest) (moreH 0 false rest h) := by
  unfold moreH mrD
  cases neg <;> cases rest <;> simp [Bool.and_assoc]
theorem brk_told {N D h : Nat} {rest : Bool} {e : Int} (hD : 0 < D) (hh : h = 2 * N / (D * 2 ^ (e + 1074).toNat)) (hr : rest = restB (2 * N % (D * 2 ^ (e + 1074).toNat))) (h54 : h < 18014398509481984) (hn : 9007199254740992 ≤ h ∨ e = -1074) :
    Brk N D ((e + 1074).toNat * 4503599627370496 + h / 2) (decide (h % 2 = 1) || rest) (moreH 0 false rest h) := by
  obtain ⟨k, hk⟩ : ∃ k, (e + 1074).toNat = k := ⟨_, rfl⟩
  rw [hk] at hh hr ⊢
  have hn' : 4503599627370496 ≤ h / 2 ∨ k = 0 := by rcases hn with h | h; exact .inl (by omega); exact .inr (by omega)
  have e1 : rv (k * 4503599627370496 + h / 2) = h / 2 * 2 ^ k := rv_at hn' (by omega)
  have e2 : rv (k * 4503599627370496 + h / 2 + 1) = (h / 2 + 1) * 2 ^ k := by rw [Nat.add_assoc]; exact rv_at (hn'.imp (fun h => by omega) id) (by omega)
  obtain ⟨U, hU⟩ : ∃ U, D * 2 ^ k = U := ⟨_, rfl⟩
  rw [hU] at hh hr
  have hUp : 0 < U := by rw [← hU]; exact Nat.mul_pos hD (Nat.pow_pos (by decide))
  obtain ⟨r, hrr⟩ : ∃ r, 2 * N % U = r := ⟨_, rfl⟩
  have hrl : r < U := by rw [← hrr]; exact Nat.mod_lt _ hUp
  have h2N : 2 * N = U * h + r := by rw [← hrr, hh]; exact (Nat.div_add_mod _ _).symm
  rw [hrr] at hr
  have m1 : h / 2 * 2 ^ k * D = h / 2 * U := by rw [Nat.mul_assoc, Nat.mul_comm (2 ^ k), hU]
  have m2 : (h / 2 + 1) * 2 ^ k * D = (h / 2) * U + U := by rw [Nat.mul_assoc, Nat.mul_comm (2 ^ k), hU, Nat.add_mul, Nat.one_mul]
  have hodd : (k * 4503599627370496 + h / 2) % 2 = h / 2 % 2 := by omega
  have key : U * h = 2 * (h / 2 * U) + (h % 2) * U := by
    have : h = 2 * (h / 2) + h % 2 := by omega
    calc U * h = U * (2 * (h / 2) + h % 2) := by rw [← this]
      _ = 2 * (h / 2 * U) + (h % 2) * U := by rw [Nat.mul_add, Nat.mul_comm U (h % 2), Nat.mul_left_comm, Nat.mul_comm U]
  clear hh hk h54 hn hn' hU
  generalize h / 2 * U = V at *
  have hx : h % 2 = 0 ∨ h % 2 = 1 := by omega
  refine ⟨?_, ?_, ?_, ?_⟩
  · rw [e1, m1]
    rcases hx with hx | hx <;> rw [hx] at key <;> omega
  · rw [e2, m2]
    rcases hx with hx | hx <;> rw [hx] at key <;> omega
  · rw [e1, m1, hr]
    unfold restB
    rw [Bool.eq_iff_iff]
    simp only [Bool.or_eq_true, decide_eq_true_eq]
    rcases hx with hx | hx <;> rw [hx] at key ⊢ <;> omega
  · rw [e1, e2, Nat.add_mul, m1, m2, hodd, hr]
    unfold moreH restB
    rw [Bool.eq_iff_iff]
    simp only [Bool.or_eq_true, Bool.and_eq_true, decide_eq_true_eq]
    rcases hx with hx | hx
    · rw [hx] at key ⊢
      simp
      omega
    · rw [hx] at key ⊢
      simp
      omega
/-- the number of X by d, by the rungs on both sides -/
theorem rndS_brk (K : Nat) (hK : 1074 < K) (X : Int) : ∃ L inx nm, Brk X.natAbs (2 ^ (K - 1074)) L inx nm ∧ ∀ d, rndS d K X = outR d (decide (X < 0)) (mrD d (decide (X < 0)) inx nm) (L + (mrD d (decide (X < 0)) inx nm).toNat) := by
  by_cases h0 : X = 0
  · subst h0
    refine ⟨0, false, false, ⟨by rw [rv_zero]; omega, by rw [Int.natAbs_zero]; exact Nat.mul_pos (by decide) (Nat.pow_pos (by decide)), by rw [rv_zero]; simp, by
      have : 0 < rv (0 + 1) := by decide
      rw [rv_zero, Nat.zero_add]
      have hp : 0 < rv 1 * 2 ^ (K - 1074) := Nat.mul_pos (by decide) (Nat.pow_pos (by decide))
      simp⟩, fun d => ?_⟩
    rw [rndS_zero d K hK]
    have : mrD d (decide ((0 : Int) < 0)) false false = false := by unfold mrD; simp
    rw [this, outR_fin (by decide)]
    rfl
  · have hn : X.natAbs ≠ 0 := by omega
    obtain ⟨h1, h2⟩ := rnd_half (K := K) hn hK
    have hs : K - 1074 ≤ shD K X.natAbs := by unfold shD; omega
    have e1 : (((shD K X.natAbs : Nat) : Int) - K + 1074).toNat = shD K X.natAbs - (K - 1074) := by omega
    have e2 : 2 ^ (K - 1074) * 2 ^ (((shD K X.natAbs : Nat) : Int) - K + 1074).toNat = 2 * 2 ^ (shD K X.natAbs - 1) := by
      have e3 : K - 1074 + (shD K X.natAbs - (K - 1074)) = shD K X.natAbs - 1 + 1 := by unfold shD; omega
      rw [e1, ← Nat.pow_add, ← Nat.pow_succ', e3]
    have b := brk_told (N := X.natAbs) (D := 2 ^ (K - 1074)) (h := X.natAbs / 2 ^ (shD K X.natAbs - 1)) (rest := restB (X.natAbs % 2 ^ (shD K X.natAbs - 1))) (e := (shD K X.natAbs : Int) - K) (Nat.pow_pos (by decide))
      (by rw [e2, Nat.mul_div_mul_left _ _ (by decide)])
      (by rw [e2, Nat.mul_mod_mul_left]; unfold restB; rw [Bool.eq_iff_iff, decide_eq_true_eq, decide_eq_true_eq]; generalize X.natAbs % 2 ^ (shD K X.natAbs - 1) = y; omega) h1 h2
    refine ⟨_, _, _, b, fun d => ?_⟩
    unfold rndS toldR
    rw [← moreH_mr]
end Go.Proofs.YtikdhkmcdmnadaaGreatFmt

namespace Go.Proofs.YtikdhkmcdmnadaaGreatFmt
open Go.RowKit

/-! ### where there is a number -/
def P2045 : Nat := 2 ^ 2045
set_option exponentiation.threshold 3000 in
theorem p2045 (j : Nat) : P2045 * 2 ^ j = 2 ^ (2045 + j) := (Nat.pow_add _ _ _).symm
theorem maxb_lt : MAXB + false.toNat < INFR := by show (9218868437227405311 : Nat) + 0 < 9218868437227405312; omega
theorem maxb_nlt : ¬ MAXB + true.toNat < INFR := by show ¬ (9218868437227405311 : Nat) + 1 < 9218868437227405312; omega
set_option exponentiation.threshold 3000 in
theorem rv_inf : rv INFR = 9007199254740992 * P2045 := by
  have h : INFR = 2045 * 4503599627370496 + 9007199254740992 := by decide
  rw [h]; exact rv_at (.inl (by decide)) (by decide)
set_option exponentiation.threshold 3000 in
theorem rv_max : rv MAXB = 9007199254740991 * P2045 := by
  have h : MAXB = 2045 * 4503599627370496 + 9007199254740991 := by decide
  rw [h]; exact rv_at (.inl (by decide)) (by decide)
theorem outR_isSome (d : Int) (neg more : Bool) (r : Nat) : (outR d neg more r).isSome = (decide (r < INFR) || !(decide (d = 0) || more || (decide (d = 1) != neg))) := by
  unfold outR
  by_cases h : INFR ≤ r
  · have h' : decide (r < INFR) = false := decide_eq_false (by omega)
    rw [if_pos h, h', Bool.false_or]
    by_cases hc : (decide (d = 0) || more || (decide (d = 1) != neg)) = true
    · rw [if_pos hc, hc]; rfl
    · rw [if_neg hc]
      have : (decide (d = 0) || more || (decide (d = 1) != neg)) = false := by simpa using hc
      rw [this]; rfl
  · have h' : decide (r < INFR) = true := decide_eq_true (by omega)
    rw [if_neg h, h', Bool.true_or]; rfl
/-- Near tells of what is below half a step behind Max -/
theorem brk_near {N D L : Nat} {inx nm : Bool} (hD : 0 < D) (b : Brk N D L inx nm) : decide (L + nm.toNat < INFR) = decide (2 * N < 18014398509481983 * P2045 * D) := by
  have e1 := rv_inf
  have e2 := rv_max
  generalize P2045 = p at *
  have lo := b.lo
  have hi := b.hi
  rw [Bool.eq_iff_iff, decide_eq_true_eq, decide_eq_true_eq]
  rcases Nat.lt_trichotomy L MAXB with h | h | h
  · have h1 : L + nm.toNat < INFR := by have := Bool.toNat_le nm; simp only [INFR, MAXB] at *; omega
    have h2 : rv (L + 1) * D ≤ rv MAXB * D := Nat.mul_le_mul_right _ (rv_le h)
    rw [e2] at h2
    refine ⟨fun _ => ?_, fun _ => h1⟩
    rw [Nat.mul_assoc] at h2 ⊢
    generalize p * D = q at *
    omega
  · subst h
    have hn := b.nr
    have h3 : MAXB + 1 = INFR := rfl
    rw [h3, e1, e2, ← Nat.add_mul, Nat.mul_assoc] at hn
    have h4 : decide (MAXB % 2 = 1) = true := by decide
    rw [h4, Bool.and_true] at hn
    rw [Nat.mul_assoc]
    clear lo hi b e1 e2 h3 h4
    have hc : (9007199254740991 + 9007199254740992 : Nat) = 18014398509481983 := rfl
    rw [hc] at hn
    clear hc
    generalize p * D = q at *
    generalize 18014398509481983 * q = a at *
    constructor
    · intro h5
      have : nm = false := by
        refine Bool.eq_false_iff.2 fun hh => ?_
        rw [hh] at h5
        exact maxb_nlt h5
      rw [this] at hn
      have hn2 := hn.symm
      rw [Bool.or_eq_false_iff, decide_eq_false_iff_not, decide_eq_false_iff_not] at hn2
      clear h5 hn this
      omega
    · intro h5
      have : nm = false := by
        rw [hn, Bool.or_eq_false_iff, decide_eq_false_iff_not, decide_eq_false_iff_not]; omega
      rw [this]; exact maxb_lt
  · have h1 : ¬ L + nm.toNat < INFR := by simp only [INFR, MAXB] at *; omega
    have h2 : rv INFR * D ≤ rv L * D := Nat.mul_le_mul_right _ (rv_le (by simp only [INFR, MAXB] at *; omega))
    rw [e1] at h2
    refine ⟨fun h => absurd h h1, fun h => ?_⟩
    exfalso
    rw [Nat.mul_assoc] at h2 h
    generalize p * D = q at *
    omega
theorem near_some {K : Nat} (hK : 1074 < K) (X : Int) : (rndS 0 K X).isSome = decide (2 * X.natAbs < 18014398509481983 * 2 ^ (K + 971)) := by
  obtain ⟨L, inx, nm, b, h⟩ := rndS_brk K hK X
  have hm : mrD 0 (decide (X < 0)) inx nm = nm := by unfold mrD; simp
  rw [h 0, outR_isSome, hm]
  have h2 := brk_near (Nat.pow_pos (by decide)) b
  rw [h2, Nat.mul_assoc, p2045]
  have e : 2045 + (K - 1074) = K + 971 := by omega
  rw [e]
  simp
/-- Down tells of what is not below -Max, Up of what is not above Max -/
theorem brk_max {N D L : Nat} {inx nm : Bool} (hD : 0 < D) (b : Brk N D L inx nm) : decide (L + inx.toNat < INFR) = decide (N ≤ rv MAXB * D) := by
  have lo := b.lo
  have hi := b.hi
  have hx := b.ix
  rw [Bool.eq_iff_iff, decide_eq_true_eq, decide_eq_true_eq]
  rcases Nat.lt_trichotomy L MAXB with h | h | h
  · have h1 : L + inx.toNat < INFR := by have := Bool.toNat_le inx; simp only [INFR, MAXB] at *; omega
    have h2 : rv (L + 1) * D ≤ rv MAXB * D := Nat.mul_le_mul_right _ (rv_le h)
    exact ⟨fun _ => by omega, fun _ => h1⟩
  · subst h
    clear hi b
    generalize rv MAXB * D = q at *
    by_cases hq : q = N
    · have : inx = false := by rw [hx]; simp [hq]
      rw [this]
      exact ⟨fun _ => by omega, fun _ => maxb_lt⟩
    · have : inx = true := by rw [hx]; simp [hq]
      rw [this]
      exact ⟨fun h => absurd h maxb_nlt, fun h => by omega⟩
  · have h1 : ¬ L + inx.toNat < INFR := by simp only [INFR, MAXB] at *; omega
    have h2 : rv (MAXB + 1) * D ≤ rv L * D := Nat.mul_le_mul_right _ (rv_le h)
    have h3 : rv MAXB * D < rv (MAXB + 1) * D := Nat.mul_lt_mul_of_pos_right (rv_succ _) hD
    clear hi b hx
    generalize rv MAXB * D = a at *
    generalize rv (MAXB + 1) * D = c at *
    generalize rv L * D = d at *
    exact ⟨fun h => absurd h h1, fun h => by omega⟩
end Go.Proofs.YtikdhkmcdmnadaaGreatFmt

namespace Go.Proofs.YtikdhkmcdmnadaaGreatFmt
open Go.RowKit

/-! ### what is rounded, where the rungs on both sides are known -/
theorem Brk.uniq {N D L L' : Nat} {inx inx' nm nm' : Bool} (b : Brk N D L inx nm) (b' : Brk N D L' inx' nm') : L = L' ∧ inx = inx' ∧ nm = nm' := by
  have key : ∀ {L L' : Nat}, rv L * D ≤ N → N < rv (L' + 1) * D → L ≤ L' := by
    intro L L' h1 h2
    rcases Nat.lt_or_ge L' L with h | h
    · have := Nat.mul_le_mul_right D (rv_le (r := L' + 1) (s := L) h)
      omega
    · exact h
  obtain rfl : L = L' := Nat.le_antisymm (key b.lo b'.hi) (key b'.lo b.hi)
  exact ⟨rfl, b.ix.trans b'.ix.symm, b.nr.trans b'.nr.symm⟩
theorem rndS_of {K : Nat} (hK : 1074 < K) {X : Int} {L : Nat} {inx nm : Bool} (b : Brk X.natAbs (2 ^ (K - 1074)) L inx nm) (d : Int) :
    rndS d K X = outR d (decide (X < 0)) (mrD d (decide (X < 0)) inx nm) (L + (mrD d (decide (X < 0)) inx nm).toNat) := by
  obtain ⟨L', inx', nm', b', h⟩ := rndS_brk K hK X
  obtain ⟨rfl, rfl, rfl⟩ := b.uniq b'
  exact h d
theorem brk_exact (L D : Nat) (hD : 0 < D) : Brk (rv L * D) D L false false := by
  have h1 := Nat.mul_lt_mul_of_pos_right (rv_succ L) hD
  refine ⟨Nat.le_refl _, h1, by simp, ?_⟩
  rw [Nat.add_mul]
  generalize rv L * D = a at *
  generalize rv (L + 1) * D = c at *
  rw [decide_eq_false (show ¬ a + c < 2 * a by omega), decide_eq_false (show ¬ a + c = 2 * a by omega)]
  rfl
theorem mrD_exact (d : Int) (neg : Bool) : mrD d neg false false = false := by unfold mrD; simp
theorem sg_pos {n : Nat} : sg false n = n := rfl
theorem sgR_lt {neg : Bool} {n : Nat} (h : 0 < n) : decide (sg neg n < 0) = neg := by cases neg <;> simp [sg] <;> omega
theorem sg_mul_nat (neg : Bool) (m n : Nat) : (sg neg m * (n : Int)).natAbs = m * n := by rw [Int.natAbs_mul, sg_abs, Int.natAbs_natCast]
theorem sg_mul_lt {neg : Bool} {m n : Nat} (hm : 0 < m) (hn : 0 < n) : decide (sg neg m * (n : Int) < 0) = neg := by
  rw [sg_pow]; exact sgR_lt (Nat.mul_pos hm hn)
theorem rv_pos {r : Nat} (h : r ≠ 0) : 0 < rv r := by have := rv_lt (Nat.pos_of_ne_zero h); rw [rv_zero] at this; exact this
/-- of a number: itself -/
theorem rndS_word {K : Nat} (hK : 1074 < K) (d : Int) (neg : Bool) {r : Nat} (hr : r < INFR) : rndS d K (sg neg (rv r) * ((2 ^ (K - 1074) : Nat) : Int)) = some (sgnR neg r) := by
  have hp : 0 < 2 ^ (K - 1074) := Nat.pow_pos (by decide)
  have b := brk_exact r (2 ^ (K - 1074)) hp
  rw [← sg_mul_nat neg] at b
  rw [rndS_of hK b d, mrD_exact]
  simp only [Bool.toNat_false, Nat.add_zero]
  rw [outR_fin hr]
  by_cases h0 : r = 0
  · subst h0; rw [sgnR_zero, sgnR_zero]
  · rw [sg_mul_lt (rv_pos h0) hp]
/-- a little more than a number -/
theorem brk_over (L D t : Nat) (h0 : 0 < t) (h2 : 2 * t < D) : Brk (rv L * D + t) D L true false := by
  have h1 : rv L * D + D ≤ rv (L + 1) * D := by
    have : (rv L + 1) * D ≤ rv (L + 1) * D := Nat.mul_le_mul_right _ (rv_succ L)
    rwa [Nat.add_mul, Nat.one_mul] at this
  refine ⟨by omega, by omega, ?_, ?_⟩
  · generalize rv L * D = a at *
    rw [decide_eq_true (show a ≠ a + t by omega)]
  · rw [Nat.add_mul]
    generalize rv L * D = a at *
    generalize rv (L + 1) * D = c at *
    rw [decide_eq_false (show ¬ a + c < 2 * (a + t) by omega), decide_eq_false (show ¬ a + c = 2 * (a + t) by omega)]
    rfl
/-- a little less than a number -/
theorem brk_under (L D t : Nat) (h0 : 0 < t) (h2 : 2 * t < D) : ∃ N, N + t = rv (L + 1) * D ∧ Brk N D L true true := by
  have h1 : rv L * D + D ≤ rv (L + 1) * D := by
    have : (rv L + 1) * D ≤ rv (L + 1) * D := Nat.mul_le_mul_right _ (rv_succ L)
    rwa [Nat.add_mul, Nat.one_mul] at this
  obtain ⟨N, hN⟩ : ∃ N, N + t = rv (L + 1) * D := ⟨rv (L + 1) * D - t, by omega⟩
  refine ⟨N, hN, by omega, by omega, ?_, ?_⟩
  · generalize rv L * D = a at *
    rw [decide_eq_true (show a ≠ N by omega)]
  · rw [Nat.add_mul]
    generalize rv L * D = a at *
    generalize rv (L + 1) * D = c at *
    rw [decide_eq_true (show a + c < 2 * N by omega)]
    rfl
/-- a number's neighbours: the number with a little step, rounded that way -/
theorem next_up (neg : Bool) {r : Nat} (hr : r < INFR) : rndS 1 1080 (sg neg (rv r) * 64 + 1) = sideS 0 (upR neg r).1 (upR neg r).2 0 := by
  have hK : 1074 < 1080 := by decide
  have side0 : ∀ (n : Bool) (q : Nat), sideS 0 n q 0 = if INFR ≤ q then none else some (sgnR n q) := fun n q => by unfold sideS; simp
  rw [side0]
  have eD : 2 ^ (1080 - 1074) = 64 := by decide
  by_cases h0 : neg = true ∧ r ≠ 0
  · obtain ⟨rfl, h0⟩ := h0
    obtain ⟨L, rfl⟩ : ∃ L, r = L + 1 := ⟨r - 1, by omega⟩
    obtain ⟨N, hN, b⟩ := brk_under L 64 1 (by decide) (by decide)
    have e : (sg true (rv (L + 1)) * 64 + 1).natAbs = N ∧ decide (sg true (rv (L + 1)) * 64 + 1 < 0) = true := by
      have := rv_pos h0
      constructor
      · simp only [sg, if_true]; omega
      · simp only [sg, if_true, decide_eq_true_eq]; omega
    rw [← e.1, ← eD] at b
    rw [rndS_of hK b 1, e.2]
    have hm : mrD 1 true true true = false := by decide
    rw [hm]
    unfold upR
    simp only [if_true, Bool.toNat_false, Nat.add_zero]
    have hL : L < INFR := by omega
    rw [if_neg h0, outR_fin hL]
    show some (sgnR true L) = if INFR ≤ L + 1 - 1 then none else some (sgnR true (L + 1 - 1))
    rw [Nat.add_sub_cancel, if_neg (by omega)]
  · have e : (sg neg (rv r) * 64 + 1).natAbs = rv r * 64 + 1 ∧ decide (sg neg (rv r) * 64 + 1 < 0) = false := by
      cases neg
      · simp only [sg]; constructor
        · simp; omega
        · simp; omega
      · have : r = 0 := by simpa using h0
        subst this; rw [rv_zero]; decide
    have b := brk_over r 64 1 (by decide) (by decide)
    rw [← e.1, ← eD] at b
    rw [rndS_of hK b 1, e.2]
    have hm : mrD 1 false true false = true := by decide
    rw [hm]
    have hu : upR neg r = (false, r + 1) := by
      unfold upR
      cases neg
      · have : r ≠ INFR := by omega
        simp [this]
      · have : r = 0 := by simpa using h0
        subst this; rfl
    rw [hu]
    show outR 1 false true (r + 1) = if INFR ≤ r + 1 then none else some (sgnR false (r + 1))
    by_cases hb : INFR ≤ r + 1
    · rw [outR_none hb (by decide), if_pos hb]
    · have hb' : r + 1 < INFR := by omega
      rw [outR_fin hb', if_neg hb]
theorem next_down (neg : Bool) {r : Nat} (hr : r < INFR) : rndS 2 1080 (sg neg (rv r) * 64 - 1) = sideS 0 (downR neg r).1 (downR neg r).2 0 := by
  have hK : 1074 < 1080 := by decide
  have side0 : ∀ (n : Bool) (q : Nat), sideS 0 n q 0 = if INFR ≤ q then none else some (sgnR n q) := fun n q => by unfold sideS; simp
  rw [side0]
  have eD : 2 ^ (1080 - 1074) = 64 := by decide
  by_cases h0 : neg = false ∧ r ≠ 0
  · obtain ⟨rfl, h0⟩ := h0
    obtain ⟨L, rfl⟩ : ∃ L, r = L + 1 := ⟨r - 1, by omega⟩
    obtain ⟨N, hN, b⟩ := brk_under L 64 1 (by decide) (by decide)
    have e : (sg false (rv (L + 1)) * 64 - 1).natAbs = N ∧ decide (sg false (rv (L + 1)) * 64 - 1 < 0) = false := by
      have := rv_pos h0
      rw [sg_pos]
      constructor
      · omega
      · rw [decide_eq_false_iff_not]; omega
    rw [← e.1, ← eD] at b
    rw [rndS_of hK b 2, e.2]
    have hm : mrD 2 false true true = false := by decide
    rw [hm]
    unfold downR
    simp only [Bool.false_eq_true, if_false, Bool.toNat_false, Nat.add_zero]
    have hL : L < INFR := by omega
    rw [if_neg h0, outR_fin hL]
    show some (sgnR false L) = if INFR ≤ L + 1 - 1 then none else some (sgnR false (L + 1 - 1))
    rw [Nat.add_sub_cancel, if_neg (by omega)]
  · have e : (sg neg (rv r) * 64 - 1).natAbs = rv r * 64 + 1 ∧ decide (sg neg (rv r) * 64 - 1 < 0) = true := by
      cases neg
      · have : r = 0 := by simpa using h0
        subst this; rw [rv_zero]; decide
      · simp only [sg, if_true]; constructor
        · omega
        · rw [decide_eq_true_eq]; omega
    have b := brk_over r 64 1 (by decide) (by decide)
    rw [← e.1, ← eD] at b
    rw [rndS_of hK b 2, e.2]
    have hm : mrD 2 true true false = true := by decide
    rw [hm]
    have hu : downR neg r = (true, r + 1) := by
      unfold downR
      cases neg
      · have : r = 0 := by simpa using h0
        subst this; rfl
      · have : r ≠ INFR := by omega
        simp [this]
    rw [hu]
    show outR 2 true true (r + 1) = if INFR ≤ r + 1 then none else some (sgnR true (r + 1))
    by_cases hb : INFR ≤ r + 1
    · rw [outR_none hb (by decide), if_pos hb]
    · have hb' : r + 1 < INFR := by omega
      rw [outR_fin hb', if_neg hb]
end Go.Proofs.YtikdhkmcdmnadaaGreatFmt
