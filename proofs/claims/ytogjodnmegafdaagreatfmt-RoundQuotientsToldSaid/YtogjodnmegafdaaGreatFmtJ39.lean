/- Walks and plain laws of this seat's functions, part 39: S19. -/
import Derived.Test.YtogjodnmegafdaaGreatFmtJ36
set_option linter.unusedVariables false
set_option linter.unusedSimpArgs false
namespace Go.Proofs.YtogjodnmegafdaaGreatFmt
open Go.RowKit

/-! ### RoundBack's plain law -/
theorem word_eq_sgn {u : Nat} (hu : u < 18446744073709551616) (hf : fin u = true) : Ieee.double.order (sgnR (fneg u) (uabs u)) u = some .eq := by
  obtain ⟨h1, h2⟩ := word_of hu hf
  obtain ⟨n, hn⟩ : ∃ n, fneg u = n := ⟨_, rfl⟩
  obtain ⟨r, hr⟩ : ∃ r, uabs u = r := ⟨_, rfl⟩
  rw [hn, hr] at h1 ⊢
  rw [hr] at h2
  rw [h1, sgn_word, order_word (Nat.le_of_lt h2) (Nat.le_of_lt h2), sval_sgn]
  exact congrArg some (Int.compare_eq_eq.2 rfl)
theorem fv_cut {u : Nat} (hu : u < 18446744073709551616) (hf : fin u = true) {K : Nat} (hK : 1074 < K) (d : Int) : rndS d K (fv u * ((2 ^ (K - 1074) : Nat) : Int)) = some (sgnR (fneg u) (uabs u)) := by
  rw [fv_zero_iff hu hf]
  exact rndS_word hK d _ (word_of hu hf).2
set_option exponentiation.threshold 9000 in
theorem scale_nought {d : Int} {u : Nat} (hu : u < 18446744073709551616) : scaleS 4000 d u 0 = if pairB d u 0 then some (sgnR (fneg u) (uabs u)) else none := by
  cases hp : pairB d u 0
  · rw [scale_none hp]; rfl
  · obtain ⟨hf, -, -, -⟩ := pairB_true hp
    rw [scale_at (K := 6200) hp (by decide), if_pos rfl]
    exact fv_cut hu hf (by decide) d
theorem pair_num (d : Int) (u : Nat) : pairB d u 0 = (fin u && decide (0 ≤ d ∧ d ≤ 2)) := by unfold pairB; rw [fv_noughts.2.2.1, Bool.and_true]
/-- told up and down alike: nothing is lost -/
theorem both_exact {K : Nat} (hK : 1074 < K) {X : Int} {p q : Nat} (hp : rndS 1 K X = some p) (hq : rndS 2 K X = some q) (he : Ieee.double.order p q = some .eq) :
    ∃ L, L < INFR ∧ p = sgnR (decide (X < 0)) L ∧ rv L * 2 ^ (K - 1074) = X.natAbs := by
  obtain ⟨L, inx, nm, b, h⟩ := rndS_brk K hK X
  obtain ⟨hx1, hx2⟩ := brk_ix b
  have hn : inx = false → nm = false := fun h => (hx1 h).1
  have h3 : Three (decide (X < 0)) L inx nm (rndS 2 K X) (rndS 1 K X) (rndS 0 K X) := ⟨h 2, h 1, h 0⟩
  have hmax : MAXB < INFR := by decide
  rcases three_cases h3 hn with ⟨e, hlo, hhi⟩ | ⟨e, hhi, hlo⟩
  · rw [hq] at hlo
    rw [hp] at hhi
    split at hhi
    · next hL =>
      have hLi : min L MAXB = L := Nat.min_eq_left (by show L ≤ 9218868437227405311; have : L + inx.toNat < 9218868437227405312 := hL; omega)
      rw [hLi] at hlo
      obtain rfl := Option.some.inj hlo
      obtain rfl := Option.some.inj hhi
      cases inx
      · exact ⟨_, hL, by rw [e], (hx1 rfl).2⟩
      · exact absurd he (sgn_ne hL).2
    · cases hhi
  · rw [hq] at hlo
    rw [hp] at hhi
    split at hlo
    · next hL =>
      have hLi : min L MAXB = L := Nat.min_eq_left (by show L ≤ 9218868437227405311; have : L + inx.toNat < 9218868437227405312 := hL; omega)
      rw [hLi] at hhi
      obtain rfl := Option.some.inj hlo
      obtain rfl := Option.some.inj hhi
      cases inx
      · exact ⟨L, hL, by rw [e], (hx1 rfl).2⟩
      · exact absurd he (sgn_ne hL).1
    · cases hlo
theorem huge_both {s : Bool} {p q : Nat} (h1 : hugeS 1 s = some p) (h2 : hugeS 2 s = some q) : False := by
  unfold hugeS at h1 h2
  cases s
  · exact absurd h1 (by simp)
  · exact absurd h2 (by simp)
theorem sg_natAbs (X : Int) : sg (decide (X < 0)) X.natAbs = X := sg_self X
set_option exponentiation.threshold 12000 in
theorem back_law {u p q : Nat} {n : Int} (hu : u < 18446744073709551616) (hp : scaleS 4000 1 u n = some p) (hq : scaleS 4000 2 u n = some q) (he : Ieee.double.order p q = some .eq) (hn : -5000 ≤ n ∧ n ≤ 5000) :
    p < 18446744073709551616 ∧ ∃ b, scaleS 4000 0 p (-n) = some b ∧ Ieee.double.order b u = some .eq := by
  cases hpr : pairB 1 u 0
  · rw [scale_none hpr] at hp; cases hp
  · obtain ⟨hf, -, -, -⟩ := pairB_true hpr
    have hpr2 : pairB 2 u 0 = true := (pair_d (by decide) (by decide)).trans hpr
    have b1 := clamp_bd (b := 4000) (n := n) (by decide)
    obtain ⟨K, hK⟩ : ∃ K : Nat, (K : Int) = 6200 - clampS 4000 n := ⟨(6200 - clampS 4000 n).toNat, by omega⟩
    rw [scale_at hpr hK] at hp
    rw [scale_at hpr2 hK] at hq
    obtain ⟨L, hL, rfl, hX⟩ := both_exact (by omega) hp hq he
    obtain ⟨s, hs⟩ : ∃ s, decide (fv u * ((2 ^ 5126 : Nat) : Int) < 0) = s := ⟨_, rfl⟩
    rw [hs] at he ⊢
    refine ⟨sgn_lt hL, _, ?_, word_eq_sgn hu hf⟩
    have hfin : fin (sgnR s L) = true := sgn_fin hL
    have b2 := clamp_bd (b := 4000) (n := -n) (by decide)
    obtain ⟨K', hK'⟩ : ∃ K : Nat, (K : Int) = 6200 - clampS 4000 (-n) := ⟨(6200 - clampS 4000 (-n)).toNat, by omega⟩
    rw [scale_at (pair_zero hfin (by decide)) hK', sgn_fv hL]
    by_cases h0 : fv u = 0
    · have hL0 : rv L = 0 := by
        rw [h0, Int.zero_mul, Int.natAbs_zero] at hX
        rcases Nat.mul_eq_zero.1 hX with h | h
        · exact h
        · exact absurd h (Nat.ne_of_gt (Nat.pow_pos (by decide)))
      have e1 : sg s (rv L) = 0 := by rw [hL0]; cases s <;> rfl
      rw [e1, Int.zero_mul]
      have := fv_cut hu hf (K := K') (by omega) 0
      rw [h0, Int.zero_mul] at this
      exact this
    · have hin : -4000 ≤ n ∧ n ≤ 4000 := by
        rcases Int.lt_or_le 4000 n with h | h
        · exfalso
          have e2 : K ≤ 2200 := by unfold clampS at hK; omega
          rw [scale_huge (by decide) h0 (by omega) e2] at hp hq
          exact huge_both hp hq
        · rcases Int.lt_or_le n (-4000) with h' | h'
          · exfalso
            have e2 : K = 10200 := by unfold clampS at hK; omega
            rw [e2, show 10200 - 1074 = 9126 from rfl, Int.natAbs_mul, Int.natAbs_natCast] at hX
            have h3 := Nat.mul_lt_mul_of_pos_right (fv_bd hu hf) (Nat.pow_pos (n := 5126) (a := 2) (by decide))
            rw [← Nat.pow_add, ← hX] at h3
            have h4 : 2 ^ (2098 + 5126) ≤ 2 ^ 9126 := Nat.pow_le_pow_right (by decide) (by decide)
            have hr : rv L = 0 := by
              rcases Nat.eq_zero_or_pos (rv L) with h | h
              · exact h
              · have := Nat.le_mul_of_pos_left (2 ^ 9126) h
                omega
            rw [hr, Nat.zero_mul] at hX
            rcases Nat.mul_eq_zero.1 hX.symm with h | h
            · exact h0 (by omega)
            · exact absurd h (Nat.ne_of_gt (Nat.pow_pos (by decide)))
          · exact ⟨h', h⟩
      rw [clamp_in hin] at hK
      rw [clamp_in (by omega)] at hK'
      have key : sg s (rv L) * ((2 ^ 5126 : Nat) : Int) = fv u * ((2 ^ (K' - 1074) : Nat) : Int) := by
        have hpos : ((2 ^ (K - 1074) : Nat) : Int) ≠ 0 := by
          have : 0 < 2 ^ (K - 1074) := Nat.pow_pos (by decide)
          omega
        refine Int.eq_of_mul_eq_mul_right hpos ?_
        have e1 : sg s (rv L) * ((2 ^ (K - 1074) : Nat) : Int) = fv u * ((2 ^ 5126 : Nat) : Int) := by
          rw [sg_pow, hX, ← hs]; exact sg_self _
        rw [Int.mul_right_comm, e1, Int.mul_assoc, Int.mul_assoc, pow_int, pow_int]
        have : 5126 + 5126 = K' - 1074 + (K - 1074) := by omega
        rw [this]
      rw [key]
      exact fv_cut hu hf (by omega) 0
end Go.Proofs.YtogjodnmegafdaaGreatFmt
