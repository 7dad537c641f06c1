/- Walks and plain laws of this seat's functions, part 24: S13 S14. -/
import Derived.Test.YtikdhkmcdmnadaaGreatFmtJ15
import Derived.Test.YtikdhkmcdmnadaaGreatFmtJ20
set_option linter.unusedVariables false
set_option linter.unusedSimpArgs false
namespace Go.Proofs.YtikdhkmcdmnadaaGreatFmt
open Go.RowKit

/-! ### magnitudes: m * 2^(ex - 64 n), in parts of 2^-K -/
theorem mag_norm {S s K : Nat} {e : Int} (he : 0 ≤ e + K) (hs : s ≤ 64) : S * 2 ^ s * 2 ^ (e - s + ((K + 64 : Nat) : Int)).toNat = S * 2 ^ (e + K).toNat * 2 ^ 64 := by
  have x : s + (e - s + ((K + 64 : Nat) : Int)).toNat = (e + K).toNat + 64 := by omega
  rw [Nat.mul_assoc, ← Nat.pow_add, x, Nat.pow_add, Nat.mul_assoc]
theorem add_mag {m1 m2 K : Nat} {a b : Int} (ha : 0 ≤ a + K) (hab : a ≤ b) : (m1 + m2 * 2 ^ (b - a).toNat) * 2 ^ (a + K).toNat = m1 * 2 ^ (a + K).toNat + m2 * 2 ^ (b + K).toNat := by
  have x : (b + K).toNat = (b - a).toNat + (a + K).toNat := by omega
  rw [Nat.add_mul, x, Nat.pow_add, Nat.mul_assoc]
theorem sub_mag {m1 m2 K : Nat} {a b : Int} (ha : 0 ≤ a + K) (hab : a ≤ b) : (m1 - m2 * 2 ^ (b - a).toNat) * 2 ^ (a + K).toNat = m1 * 2 ^ (a + K).toNat - m2 * 2 ^ (b + K).toNat := by
  have x : (b + K).toNat = (b - a).toNat + (a + K).toNat := by omega
  rw [Nat.sub_mul, x, Nat.pow_add, Nat.mul_assoc]
theorem sub_mag' {m1 m2 K : Nat} {a b : Int} (ha : 0 ≤ a + K) (hab : a ≤ b) : (m2 * 2 ^ (b - a).toNat - m1) * 2 ^ (a + K).toNat = m2 * 2 ^ (b + K).toNat - m1 * 2 ^ (a + K).toNat := by
  have x : (b + K).toNat = (b - a).toNat + (a + K).toNat := by omega
  rw [Nat.sub_mul, x, Nat.pow_add, Nat.mul_assoc]
theorem mag_bd {m n K : Nat} {ex : Int} (hb : bl m = 64 * n) (hn : 0 < n) (h0 : 0 ≤ ex - ((64 * n : Nat) : Int) + K) : 2 ^ (ex + K - 1).toNat ≤ m * 2 ^ (ex - ((64 * n : Nat) : Int) + K).toNat ∧ m * 2 ^ (ex - ((64 * n : Nat) : Int) + K).toNat < 2 ^ (ex + K).toNat := by
  have hm : m ≠ 0 := by intro h; subst h; rw [bl_zero] at hb; omega
  have hbl := bl_mul_pow hm (ex - ((64 * n : Nat) : Int) + K).toNat
  have h1 := bl_lt (m * 2 ^ (ex - ((64 * n : Nat) : Int) + K).toNat)
  have h2 := bl_le (m := m * 2 ^ (ex - ((64 * n : Nat) : Int) + K).toNat) (by have := Nat.mul_pos (Nat.pos_of_ne_zero hm) (Nat.pow_pos (n := (ex - ((64 * n : Nat) : Int) + K).toNat) (a := 2) (by decide)); omega)
  rw [hbl, hb, show 64 * n + (ex - ((64 * n : Nat) : Int) + K).toNat = (ex + K).toNat from by omega] at h1
  rw [hbl, hb, show 64 * n + (ex - ((64 * n : Nat) : Int) + K).toNat - 1 = (ex + K - 1).toNat from by omega] at h2
  exact ⟨h2, h1⟩
theorem mag_lt {m1 n1 m2 n2 K : Nat} {ex ey : Int} (b1 : bl m1 = 64 * n1) (h1 : 0 < n1) (z1 : 0 ≤ ex - ((64 * n1 : Nat) : Int) + K) (b2 : bl m2 = 64 * n2) (h2 : 0 < n2) (z2 : 0 ≤ ey - ((64 * n2 : Nat) : Int) + K) (h : ex < ey) :
    m1 * 2 ^ (ex - ((64 * n1 : Nat) : Int) + K).toNat < m2 * 2 ^ (ey - ((64 * n2 : Nat) : Int) + K).toNat := by
  have a1 := (mag_bd b1 h1 z1).2
  have a2 := (mag_bd b2 h2 z2).1
  have : 2 ^ (ex + K).toNat ≤ 2 ^ (ey + K - 1).toNat := Nat.pow_le_pow_right (by decide) (by omega)
  omega
theorem mag_same {m n N K : Nat} {ex : Int} (hnN : n ≤ N) (z : 0 ≤ ex - ((64 * N : Nat) : Int) + K) : m * 2 ^ (ex - ((64 * n : Nat) : Int) + K).toNat = B64 ^ (N - n) * m * 2 ^ (ex - ((64 * N : Nat) : Int) + K).toNat := by
  have x : (ex - ((64 * n : Nat) : Int) + K).toNat = 64 * (N - n) + (ex - ((64 * N : Nat) : Int) + K).toNat := by omega
  rw [x, Nat.pow_add, show (B64 : Nat) = 2 ^ 64 from by decide, ← Nat.pow_mul, ← Nat.mul_assoc, Nat.mul_comm m]
end Go.Proofs.YtikdhkmcdmnadaaGreatFmt

namespace Go.Proofs.YtikdhkmcdmnadaaGreatFmt
open Go.RowKit

/-! ### a quotient's nearest number against the quotient -/
theorem brk_exact_nm {N D L : Nat} {inx nm : Bool} (b : Brk N D L inx nm) (h : inx = false) : nm = false ∧ rv L * D = N := by
  have h1 : rv L * D = N := by have := b.ix; rw [h] at this; simpa using this
  refine ⟨?_, h1⟩
  have h2 := b.hi
  rw [b.nr, Nat.add_mul]
  generalize rv L * D = x at *
  generalize rv (L + 1) * D = y at *
  rw [decide_eq_false (by omega), decide_eq_false (by omega)]
  rfl
theorem sign_sg {neg : Bool} {x y : Nat} : Int.sign (sg neg x - sg neg y) = if x = y then 0 else if (decide (y < x)) != neg then 1 else -1 := by
  by_cases h : x = y
  · subst h; rw [if_pos rfl]; simp
  · rw [if_neg h]
    by_cases h2 : y < x
    · rw [decide_eq_true h2]
      cases neg
      · exact Int.sign_eq_one_of_pos (show (0 : Int) < (x : Int) - (y : Int) by omega)
      · exact Int.sign_eq_neg_one_of_neg (show -(x : Int) - -(y : Int) < 0 by omega)
    · rw [decide_eq_false h2]
      cases neg
      · exact Int.sign_eq_neg_one_of_neg (show (x : Int) - (y : Int) < 0 by omega)
      · exact Int.sign_eq_one_of_pos (show (0 : Int) < -(x : Int) - -(y : Int) by omega)
set_option exponentiation.threshold 3000 in
theorem div_acc {A B : Nat} (hA : A ≠ 0) (hB : B ≠ 0) (neg : Bool) (hlt : r0R (hQ A B) (restQ A B) (eQ A B) < INFR) :
    accR neg (hQ A B) (restQ A B) (eQ A B) = Int.sign (sg neg (rv (nearR (hQ A B) (restQ A B) (eQ A B)) * B) - sg neg (A * 2 ^ 1074)) := by
  have b := quot_brk hA hB
  obtain ⟨N, hN⟩ : ∃ N, A * 2 ^ 1074 = N := ⟨_, rfl⟩
  rw [hN] at b ⊢
  clear hN
  unfold accR nearR
  rw [if_neg (by omega), Nat.min_eq_left (Nat.le_of_lt hlt), sign_sg]
  unfold r0R at hlt ⊢
  generalize hQ A B = h at *
  generalize restQ A B = rest at *
  obtain ⟨L, hL⟩ : ∃ L, (eQ A B + 1074).toNat * 4503599627370496 + h / 2 = L := ⟨_, rfl⟩
  rw [hL] at b ⊢
  obtain ⟨nm, hnm⟩ : ∃ nm, moreH 0 false rest h = nm := ⟨_, rfl⟩
  rw [hnm] at b ⊢
  clear hlt hL hnm
  by_cases hx : h % 2 = 0 ∧ rest = false
  · rw [if_pos hx]
    obtain ⟨h1, h2⟩ := brk_exact_nm b (by obtain ⟨x1, rfl⟩ := hx; simp; omega)
    subst h1
    rw [if_pos (by simpa using h2)]
  · rw [if_neg hx]
    have hi : (decide (h % 2 = 1) || rest) = true := by
      cases rest
      · simp at hx ⊢; omega
      · simp
    rw [hi] at b
    have h1 := b.ix
    have h2 := b.lo
    have h3 := b.hi
    have h4 : rv L * B ≠ N := by simpa using h1.symm
    cases nm
    · simp only [Bool.toNat_false, Nat.add_zero]
      have e : decide (N < rv L * B) = false := decide_eq_false (by omega)
      rw [if_neg h4]
      simp only [e]
    · simp only [Bool.toNat_true]
      have e : decide (N < rv (L + 1) * B) = true := decide_eq_true (by omega)
      have e2 : ¬ rv (L + 1) * B = N := by omega
      rw [if_neg e2]
      simp only [e]
end Go.Proofs.YtikdhkmcdmnadaaGreatFmt
