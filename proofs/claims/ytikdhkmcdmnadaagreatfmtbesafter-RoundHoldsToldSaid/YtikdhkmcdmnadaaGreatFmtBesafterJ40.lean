/- Walks and plain laws of this seat's functions, part 40: S23. -/
import Derived.Test.YtikdhkmcdmnadaaGreatFmtBesafterJ37
set_option linter.unusedVariables false
set_option linter.unusedSimpArgs false
namespace Go.Proofs.YtikdhkmcdmnadaaGreatFmtBesafter
open Go.RowKit

/-! ### RoundHolds' plain law -/
theorem sgn_nneg {x : Int} : decide (0 ≤ Int.sign x) = decide (0 ≤ x) := by
  rcases Int.lt_trichotomy x 0 with h | h | h
  · rw [Int.sign_eq_neg_one_of_neg h, decide_eq_false (by omega), decide_eq_false (by omega)]
  · subst h; rfl
  · rw [Int.sign_eq_one_of_pos h, decide_eq_true (by omega), decide_eq_true (by omega)]
theorem sgn_npos {x : Int} : decide (Int.sign x ≤ 0) = decide (x ≤ 0) := by
  rcases Int.lt_trichotomy x 0 with h | h | h
  · rw [Int.sign_eq_neg_one_of_neg h, decide_eq_true (by omega), decide_eq_true (by omega)]
  · subst h; rfl
  · rw [Int.sign_eq_one_of_pos h, decide_eq_false (by omega), decide_eq_false (by omega)]
theorem sgn_le0 {x : Int} (h : x ≤ 0) : Int.sign x ≤ 0 := by
  have := sgn_npos (x := x)
  rw [decide_eq_true h] at this; simpa using this
/-- in the middle of P and Q (the numbers of p and q), or nearer to one of them -/
def leftS (X P Q : Int) : Int := Int.sign ((X - P) - (Q - X))
structure HoldsP (D : Nat) (X : Int) (lo hi m : Option Nat) : Prop where
  ha : lo.isSome = decide (0 ≤ Int.sign (X - -((rv MAXB * D : Nat) : Int)))
  hb : hi.isSome = decide (Int.sign (X - ((rv MAXB * D : Nat) : Int)) ≤ 0)
  hc : lo = none → hi = some 18442240474082181119 ∧ Int.sign ((X.natAbs : Int) - ((rv MAXB * D : Nat) : Int)) = 1
  hc' : hi = none → lo = some 9218868437227405311 ∧ Int.sign ((X.natAbs : Int) - ((rv MAXB * D : Nat) : Int)) = 1
  hd : ∀ p q, lo = some p → hi = some q → ((p < 18446744073709551616 ∧ fin p = true) ∧ (q < 18446744073709551616 ∧ fin q = true)) ∧ Int.sign (fv p * (D : Int) - X) ≤ 0 ∧ Int.sign (X - fv q * (D : Int)) ≤ 0 ∧
    ∃ mm, m = some mm ∧ ((p = q ∧ mm = p ∧ Ieee.double.order p p = some .eq ∧ leftS X (fv p * (D : Int)) (fv q * (D : Int)) = 0) ∨
      (Ieee.double.order p q ≠ some .eq ∧ Ieee.double.order p p = some .eq ∧ Ieee.double.order q q = some .eq ∧ nextS 1 p = some q ∧ Int.sign (fv p * (D : Int) - X) ≠ 0 ∧ Int.sign (X - fv q * (D : Int)) ≠ 0 ∧
        ((leftS X (fv p * (D : Int)) (fv q * (D : Int)) = -1 ∧ mm = p) ∨ (leftS X (fv p * (D : Int)) (fv q * (D : Int)) = 1 ∧ mm = q) ∨ (leftS X (fv p * (D : Int)) (fv q * (D : Int)) = 0 ∧ mm % 2 = 0 ∧ (mm = p ∨ mm = q)))))
theorem max_iff {N D L : Nat} {inx nm : Bool} (hD : 0 < D) (b : Brk N D L inx nm) : L + inx.toNat < INFR ↔ N ≤ rv MAXB * D := by
  have := brk_max hD b
  by_cases h : N ≤ rv MAXB * D
  · rw [decide_eq_true h] at this; simp only [decide_eq_true_eq] at this; exact ⟨fun _ => h, fun _ => this⟩
  · rw [decide_eq_false h] at this; simp only [decide_eq_false_iff_not] at this; exact ⟨fun h' => absurd h' this, fun h' => absurd h' h⟩
theorem even_sgn {n : Bool} {r : Nat} (h : r % 2 = 0) : sgnR n r % 2 = 0 := by unfold sgnR; split <;> omega
/-- the nearer one of two neighbours, by the sign of 2N - (a + c) -/
theorem near_pick {N a c L : Nat} {nm : Bool} (h : nm = (decide (a + c < 2 * N) || (decide (a + c = 2 * N) && decide (L % 2 = 1)))) :
    (2 * N < a + c ∧ nm = false) ∨ (a + c < 2 * N ∧ nm = true) ∨ (a + c = 2 * N ∧ (L + nm.toNat) % 2 = 0) := by
  rcases Nat.lt_trichotomy (a + c) (2 * N) with h1 | h1 | h1
  · exact .inr (.inl ⟨h1, by rw [h, decide_eq_true h1]; rfl⟩)
  · refine .inr (.inr ⟨h1, ?_⟩)
    rw [decide_eq_false (by omega), decide_eq_true h1, Bool.false_or, Bool.true_and] at h
    rw [h]
    rcases Nat.mod_two_eq_zero_or_one L with h2 | h2
    · rw [decide_eq_false (by omega)]; exact h2
    · rw [decide_eq_true h2]; show (L + 1) % 2 = 0; omega
  · refine .inl ⟨h1, ?_⟩
    rw [h, decide_eq_false (by omega), decide_eq_false (by omega)]; rfl
theorem sgn_num (n : Bool) (a D : Nat) : sg n a * (D : Int) = if n then -((a * D : Nat) : Int) else ((a * D : Nat) : Int) := by
  rw [Int.natCast_mul]; cases n <;> simp [sg, Int.neg_mul]
theorem holds_law {K : Nat} (hK : 1074 < K) (X : Int) : HoldsP (2 ^ (K - 1074)) X (rndS 2 K X) (rndS 1 K X) (rndS 0 K X) := by
  obtain ⟨L, inx, nm, b, h⟩ := rndS_brk K hK X
  obtain ⟨hx1, hx2⟩ := brk_ix b
  have hn : inx = false → nm = false := fun h => (hx1 h).1
  have h3 : Three (decide (X < 0)) L inx nm (rndS 2 K X) (rndS 1 K X) (rndS 0 K X) := ⟨h 2, h 1, h 0⟩
  have hD : 0 < 2 ^ (K - 1074) := Nat.pow_pos (by decide)
  obtain ⟨D, hDD⟩ : ∃ D, 2 ^ (K - 1074) = D := ⟨_, rfl⟩
  rw [hDD] at hD b hx1 hx2 ⊢
  have hmax := max_iff hD b
  have hlo := b.lo
  have hhi := b.hi
  have hnr := b.nr
  rw [Nat.add_mul] at hnr
  have hpick := near_pick hnr
  obtain ⟨T, hT⟩ : ∃ T, rv MAXB * D = T := ⟨_, rfl⟩
  have hXs := sg_self X
  obtain ⟨N, hN⟩ : ∃ N, X.natAbs = N := ⟨_, rfl⟩
  rw [hN] at hXs hmax hlo hhi hx1 hx2 hpick
  rw [hT] at hmax
  obtain ⟨lo, hlo'⟩ : ∃ o, rndS 2 K X = o := ⟨_, rfl⟩
  obtain ⟨hi, hhi'⟩ : ∃ o, rndS 1 K X = o := ⟨_, rfl⟩
  obtain ⟨m, hm'⟩ : ∃ o, rndS 0 K X = o := ⟨_, rfl⟩
  rw [hlo', hhi', hm'] at h3 ⊢
  have hmx : MAXB < INFR := by decide
  have hin : INFR = 9218868437227405312 := rfl
  have hmb : MAXB = 9218868437227405311 := rfl
  obtain ⟨a, hav⟩ : ∃ a, rv L * D = a := ⟨_, rfl⟩
  obtain ⟨c, hcv⟩ : ∃ a, rv (L + 1) * D = a := ⟨_, rfl⟩
  rw [hav] at hlo hx1 hx2 hpick
  rw [hcv] at hhi hpick
  clear h hDD b hnr hlo' hhi' hm'
  rcases three_cases h3 hn with ⟨e, elo, ehi⟩ | ⟨e, ehi, elo⟩
  · rw [e] at hXs h3
    have hX : X = (N : Int) := hXs.symm
    have h0 : 0 ≤ X := by omega
    refine ⟨?_, ?_, ?_, ?_, ?_⟩
    · rw [elo, sgn_nneg, hT, decide_eq_true (by omega)]; rfl
    · rw [ehi, sgn_npos, hT]
      by_cases hL : L + inx.toNat < INFR
      · rw [if_pos hL, decide_eq_true (by have := hmax.1 hL; omega)]; rfl
      · rw [if_neg hL, decide_eq_false (by intro h; exact hL (hmax.2 (by omega)))]; rfl
    · intro h; rw [elo] at h; cases h
    · intro h
      rw [ehi] at h
      by_cases hL : L + inx.toNat < INFR
      · rw [if_pos hL] at h; cases h
      · have hNT : ¬ N ≤ T := fun h => hL (hmax.2 h)
        have hi1 : inx.toNat ≤ 1 := by cases inx <;> decide
        rw [elo, Nat.min_eq_right (by omega), hN, hT, Int.sign_eq_one_of_pos (by omega)]
        exact ⟨rfl, rfl⟩
    · intro p q h1 h2
      rw [elo] at h1
      rw [ehi] at h2
      split at h2
      · next hL =>
        have hi1 : inx.toNat ≤ 1 := by cases inx <;> decide
        rw [Nat.min_eq_left (by omega)] at h1
        have hL0 : L < INFR := by omega
        obtain rfl := Option.some.inj h1
        obtain rfl := Option.some.inj h2
        refine ⟨⟨⟨sgn_lt hL0, sgn_fin hL0⟩, sgn_lt hL, sgn_fin hL⟩, ?_⟩
        rw [sgn_fv hL0, sgn_fv hL, sgn_num, sgn_num, if_neg (by decide), if_neg (by decide), hav]
        cases inx
        · have hm := three_near h3 hn hL
          rw [Bool.toNat_false, Nat.add_zero, hav]
          obtain ⟨hnm, haN⟩ := hx1 rfl
          refine ⟨sgn_le0 (by omega), sgn_le0 (by omega), sgnR false L, ?_, .inl ⟨rfl, rfl, sgn_self hL0, ?_⟩⟩
          · rcases hm with h | ⟨h, -⟩
            · exact h
            · cases h
          · unfold leftS
            rw [show X - (a : Int) - ((a : Int) - X) = 0 by omega]; rfl
        · have hL' : L + 1 < INFR := hL
          have ec : rv (L + true.toNat) * D = c := hcv
          rw [ec]
          have haN := hx2 rfl
          have m0 : mrD 0 false true nm = nm := by unfold mrD; simp
          have h3m := h3.m
          have hnm1 : nm.toNat ≤ 1 := by cases nm <;> decide
          rw [m0, outR_fin (by omega)] at h3m
          refine ⟨sgn_le0 (by omega), sgn_le0 (by omega), _, h3m, .inr ⟨(sgn_ne hL').1, sgn_self hL0, sgn_self hL, next_of_pos hL', ?_, ?_, ?_⟩⟩
          · rw [Int.sign_eq_neg_one_of_neg (by omega)]; decide
          · rw [Int.sign_eq_neg_one_of_neg (by omega)]; decide
          · unfold leftS
            rcases hpick with ⟨k1, k2⟩ | ⟨k1, k2⟩ | ⟨k1, k2⟩
            · exact .inl ⟨Int.sign_eq_neg_one_of_neg (by omega), by rw [k2]; rfl⟩
            · exact .inr (.inl ⟨Int.sign_eq_one_of_pos (by omega), by rw [k2]⟩)
            · refine .inr (.inr ⟨?_, even_sgn k2, ?_⟩)
              · rw [show X - (a : Int) - ((c : Int) - X) = 0 by omega]; rfl
              · cases nm
                · exact .inl rfl
                · exact .inr rfl
      · cases h2
  · rw [e] at hXs h3
    have hX : X = -(N : Int) := hXs.symm
    have hneg : X < 0 := by simpa using e
    refine ⟨?_, ?_, ?_, ?_, ?_⟩
    · rw [elo, sgn_nneg, hT]
      by_cases hL : L + inx.toNat < INFR
      · rw [if_pos hL, decide_eq_true (by have := hmax.1 hL; omega)]; rfl
      · rw [if_neg hL, decide_eq_false (by intro h; exact hL (hmax.2 (by omega)))]; rfl
    · rw [ehi, sgn_npos, hT, decide_eq_true (by omega)]; rfl
    · intro h
      rw [elo] at h
      by_cases hL : L + inx.toNat < INFR
      · rw [if_pos hL] at h; cases h
      · have hNT : ¬ N ≤ T := fun h => hL (hmax.2 h)
        have hi1 : inx.toNat ≤ 1 := by cases inx <;> decide
        rw [ehi, Nat.min_eq_right (by omega), hN, hT, Int.sign_eq_one_of_pos (by omega)]
        exact ⟨rfl, rfl⟩
    · intro h; rw [ehi] at h; cases h
    · intro p q h1 h2
      rw [elo] at h1
      rw [ehi] at h2
      split at h1
      · next hL =>
        have hi1 : inx.toNat ≤ 1 := by cases inx <;> decide
        rw [Nat.min_eq_left (by omega)] at h2
        have hL0 : L < INFR := by omega
        obtain rfl := Option.some.inj h1
        obtain rfl := Option.some.inj h2
        refine ⟨⟨⟨sgn_lt hL, sgn_fin hL⟩, sgn_lt hL0, sgn_fin hL0⟩, ?_⟩
        rw [sgn_fv hL0, sgn_fv hL, sgn_num, sgn_num, if_pos rfl, if_pos rfl, hav]
        cases inx
        · have hm := three_near h3 hn hL
          rw [Bool.toNat_false, Nat.add_zero, hav]
          obtain ⟨hnm, haN⟩ := hx1 rfl
          refine ⟨sgn_le0 (by omega), sgn_le0 (by omega), sgnR true L, ?_, .inl ⟨rfl, rfl, sgn_self hL0, ?_⟩⟩
          · rcases hm with h | ⟨h, -⟩
            · exact h
            · cases h
          · unfold leftS
            rw [show X - -(a : Int) - (-(a : Int) - X) = 0 by omega]; rfl
        · have hL' : L + 1 < INFR := hL
          have ec : rv (L + true.toNat) * D = c := hcv
          rw [ec]
          have haN := hx2 rfl
          have m0 : mrD 0 true true nm = nm := by unfold mrD; simp
          have h3m := h3.m
          have hnm1 : nm.toNat ≤ 1 := by cases nm <;> decide
          rw [m0, outR_fin (by omega)] at h3m
          refine ⟨sgn_le0 (by omega), sgn_le0 (by omega), _, h3m, .inr ⟨(sgn_ne hL').2, sgn_self hL, sgn_self hL0, next_of_neg hL', ?_, ?_, ?_⟩⟩
          · rw [Int.sign_eq_neg_one_of_neg (by omega)]; decide
          · rw [Int.sign_eq_neg_one_of_neg (by omega)]; decide
          · unfold leftS
            rcases hpick with ⟨k1, k2⟩ | ⟨k1, k2⟩ | ⟨k1, k2⟩
            · exact .inr (.inl ⟨Int.sign_eq_one_of_pos (by omega), by rw [k2]; rfl⟩)
            · exact .inl ⟨Int.sign_eq_neg_one_of_neg (by omega), by rw [k2]⟩
            · refine .inr (.inr ⟨?_, even_sgn k2, ?_⟩)
              · rw [show X - -(c : Int) - (-(a : Int) - X) = 0 by omega]; rfl
              · cases nm
                · exact .inr rfl
                · exact .inl rfl
      · cases h1
end Go.Proofs.YtikdhkmcdmnadaaGreatFmtBesafter
