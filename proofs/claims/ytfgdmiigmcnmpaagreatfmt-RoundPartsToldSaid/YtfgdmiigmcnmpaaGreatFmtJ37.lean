/- Walks and plain laws of this seat's functions, part 37: S23 S25 S26. -/
import Derived.Test.YtfgdmiigmcnmpaaGreatFmtJ27
import Derived.Test.YtfgdmiigmcnmpaaGreatFmtJ29
import Derived.Test.YtfgdmiigmcnmpaaGreatFmtJ32
set_option linter.unusedVariables false
set_option linter.unusedSimpArgs false
namespace Go.Proofs.YtfgdmiigmcnmpaaGreatFmt
open Go.RowKit

/-! ### RoundHolds' plain law -/
theorem sgn_nneg {x : Int} : decide (0 ≤ Int.sign x) = decide (0 ≤ x) := by
  rcases Int.lt_trichotomy x 0 with h | h | h
  · rw [Int.sign_eq_neg_one_of_neg h, decide_eq_false (by omega), decide_eq_false (by omega)]
  · subst h; rfl
  · rw [Int.sign_eq_one_of_pos h, decide_eq_true (by omega), decide_eq_true (by omega)]
theorem sgn_npos {x : Int} : decide (Int.sign x ≤ 0) = decide (x ≤ 0) := by
  rcases Int.lt_trichotomy x 0 with h | h | h
  · rw [Int.sign_eq_neg_one_of_neg h, decide_eq_true (by omega), decide_eq_true (by omega)]
  · subst h; rfl
  · rw [Int.sign_eq_one_of_pos h, decide_eq_false (by omega), decide_eq_false (by omega)]
theorem sgn_le0 {x : Int} (h : x ≤ 0) : Int.sign x ≤ 0 := by
  have := sgn_npos (x := x)
  rw [decide_eq_true h] at this; simpa using this
/-- in the middle of P and Q (the numbers of p and q), or nearer to one of them -/
def leftS (X P Q : Int) : Int := Int.sign ((X - P) - (Q - X))
structure HoldsP (D : Nat) (X : Int) (lo hi m : Option Nat) : Prop where
  ha : lo.isSome = decide (0 ≤ Int.sign (X - -((rv MAXB * D : Nat) : Int)))
  hb : hi.isSome = decide (Int.sign (X - ((rv MAXB * D : Nat) : Int)) ≤ 0)
  hc : lo = none → hi = some 18442240474082181119 ∧ Int.sign ((X.natAbs : Int) - ((rv MAXB * D : Nat) : Int)) = 1
  hc' : hi = none → lo = some 9218868437227405311 ∧ Int.sign ((X.natAbs : Int) - ((rv MAXB * D : Nat) : Int)) = 1
  hd : ∀ p q, lo = some p → hi = some q → ((p < 18446744073709551616 ∧ fin p = true) ∧ (q < 18446744073709551616 ∧ fin q = true)) ∧ Int.sign (fv p * (D : Int) - X) ≤ 0 ∧ Int.sign (X - fv q * (D : Int)) ≤ 0 ∧
    ∃ mm, m = some mm ∧ ((p = q ∧ mm = p ∧ Ieee.double.order p p = some .eq ∧ leftS X (fv p * (D : Int)) (fv q * (D : Int)) = 0) ∨
      (Ieee.double.order p q ≠ some .eq ∧ Ieee.double.order p p = some .eq ∧ Ieee.double.order q q = some .eq ∧ nextS 1 p = some q ∧ Int.sign (fv p * (D : Int) - X) ≠ 0 ∧ Int.sign (X - fv q * (D : Int)) ≠ 0 ∧
        ((leftS X (fv p * (D : Int)) (fv q * (D : Int)) = -1 ∧ mm = p) ∨ (leftS X (fv p * (D : Int)) (fv q * (D : Int)) = 1 ∧ mm = q) ∨ (leftS X (fv p * (D : Int)) (fv q * (D : Int)) = 0 ∧ mm % 2 = 0 ∧ (mm = p ∨ mm = q)))))
theorem max_iff {N D L : Nat} {inx nm : Bool} (hD : 0 < D) (b : Brk N D L inx nm) : L + inx.toNat < INFR ↔ N ≤ rv MAXB * D := by
  have := brk_max hD b
  by_cases h : N ≤ rv MAXB * D
  · rw [decide_eq_true h] at this; simp only [decide_eq_true_eq] at this; exact ⟨fun _ => h, fun _ => this⟩
  · rw [decide_eq_false h] at this; simp only [decide_eq_false_iff_not] at this; exact ⟨fun h' => absurd h' this, fun h' => absurd h' h⟩
theorem even_sgn {n : Bool} {r : Nat} (h : r % 2 = 0) : sgnR n r % 2 = 0 := by unfold sgnR; split <;> omega
/-- the nearer one of two neighbours, by the sign of 2N - (a + c) -/
theorem near_pick {N a c L : Nat} {nm : Bool} (h : nm = (decide (a + c < 2 * N) || (decide (a + c = 2 * N) && decide (L % 2 = 1)))) :
    (2 * N < a + c ∧ nm = false) ∨ (a + c < 2 * N ∧ nm = true) ∨ (a + c = 2 * N ∧ (L + nm.toNat) % 2 = 0) := by
  rcases Nat.lt_trichotomy (a + c) (2 * N) with h1 | h1 | h1
  · exact .inr (.inl ⟨h1, by rw [h, decide_eq_true h1]; rfl⟩)
  · refine .inr (.inr ⟨h1, ?_⟩)
    rw [decide_eq_false (by omega), decide_eq_true h1, Bool.false_or, Bool.true_and] at h
    rw [h]
    rcases Nat.mod_two_eq_zero_or_one L with h2 | h2
    · rw [decide_eq_false (by omega)]; exact h2
    · rw [decide_eq_true h2]; show (L + 1) % 2 = 0; omega
  · refine .inl ⟨h1, ?_⟩
    rw [h, decide_eq_false (by omega), decide_eq_false (by omega)]; rfl
theorem sgn_num (n : Bool) (a D : Nat) : sg n a * (D : Int) = if n then -((a * D : Nat) : Int) else ((a * D : Nat) : Int) := by
  rw [Int.natCast_mul]; cases n <;> simp [sg, Int.neg_mul]
theorem holds_law {K : Nat} (hK : 1074 < K) (X : Int) : HoldsP (2 ^ (K - 1074)) X (rndS 2 K X) (rndS 1 K X) (rndS 0 K X) := by
  obtain ⟨L, inx, nm, b, h⟩ := rndS_brk K hK X
  obtain ⟨hx1, hx2⟩ := brk_ix b
  have hn : inx = false → nm = false := fun h => (hx1 h).1
  have h3 : Three (decide (X < 0)) L inx nm (rndS 2 K X) (rndS 1 K X) (rndS 0 K X) := ⟨h 2, h 1, h 0⟩
  have hD : 0 < 2 ^ (K - 1074) := Nat.pow_pos (by decide)
  obtain ⟨D, hDD⟩ : ∃ D, 2 ^ (K - 1074) = D := ⟨_, rfl⟩
  rw [hDD] at hD b hx1 hx2 ⊢
  have hmax := max_iff hD b
  have hlo := b.lo
  have hhi := b.hi
  have hnr := b.nr
  rw [Nat.add_mul] at hnr
  have hpick := near_pick hnr
  obtain ⟨T, hT⟩ : ∃ T, rv MAXB * D = T := ⟨_, rfl⟩
  have hXs := sg_self X
  obtain ⟨N, hN⟩ : ∃ N, X.natAbs = N := ⟨_, rfl⟩
  rw [hN] at hXs hmax hlo hhi hx1 hx2 hpick
  rw [hT] at hmax
  obtain ⟨lo, hlo'⟩ : ∃ o, rndS 2 K X = o := ⟨_, rfl⟩
  obtain ⟨hi, hhi'⟩ : ∃ o, rndS 1 K X = o := ⟨_, rfl⟩
  obtain ⟨m, hm'⟩ : ∃ o, rndS 0 K X = o := ⟨_, rfl⟩
  rw [hlo', hhi', hm'] at h3 ⊢
  have hmx : MAXB < INFR := by decide
  have hin : INFR = 9218868437227405312 := rfl
  have hmb : MAXB = 9218868437227405311 := rfl
  obtain ⟨a, hav⟩ : ∃ a, rv L * D = a := ⟨_, rfl⟩
  obtain ⟨c, hcv⟩ : ∃ a, rv (L + 1) * D = a := ⟨_, rfl⟩
  rw [hav] at hlo hx1 hx2 hpick
  rw [hcv] at hhi hpick
  clear h hDD b hnr hlo' hhi' hm'
  rcases three_cases h3 hn with ⟨e, elo, ehi⟩ | ⟨e, ehi, elo⟩
  · rw [e] at hXs h3
    have hX : X = (N : Int) := hXs.symm
    have h0 : 0 ≤ X := by omega
    refine ⟨?_, ?_, ?_, ?_, ?_⟩
    · rw [elo, sgn_nneg, hT, decide_eq_true (by omega)]; rfl
    · rw [ehi, sgn_npos, hT]
      by_cases hL : L + inx.toNat < INFR
      · rw [if_pos hL, decide_eq_true (by have := hmax.1 hL; omega)]; rfl
      · rw [if_neg hL, decide_eq_false (by intro h; exact hL (hmax.2 (by omega)))]; rfl
    · intro h; rw [elo] at h; cases h
    · intro h
      rw [ehi] at h
      by_cases hL : L + inx.toNat < INFR
      · rw [if_pos hL] at h; cases h
      · have hNT : ¬ N ≤ T := fun h => hL (hmax.2 h)
        have hi1 : inx.toNat ≤ 1 := by cases inx <;> decide
        rw [elo, Nat.min_eq_right (by omega), hN, hT, Int.sign_eq_one_of_pos (by omega)]
        exact ⟨rfl, rfl⟩
    · intro p q h1 h2
      rw [elo] at h1
      rw [ehi] at h2
      split at h2
      · next hL =>
        have hi1 : inx.toNat ≤ 1 := by cases inx <;> decide
        rw [Nat.min_eq_left (by omega)] at h1
        have hL0 : L < INFR := by omega
        obtain rfl := Option.some.inj h1
        obtain rfl := Option.some.inj h2
        refine ⟨⟨⟨sgn_lt hL0, sgn_fin hL0⟩, sgn_lt hL, sgn_fin hL⟩, ?_⟩
        rw [sgn_fv hL0, sgn_fv hL, sgn_num, sgn_num, if_neg (by decide), if_neg (by decide), hav]
        cases inx
        · have hm := three_near h3 hn hL
          rw [Bool.toNat_false, Nat.add_zero, hav]
          obtain ⟨hnm, haN⟩ := hx1 rfl
          refine ⟨sgn_le0 (by omega), sgn_le0 (by omega), sgnR false L, ?_, .inl ⟨rfl, rfl, sgn_self hL0, ?_⟩⟩
          · rcases hm with h | ⟨h, -⟩
            · exact h
            · cases h
          · unfold leftS
            rw [show X - (a : Int) - ((a : Int) - X) = 0 by omega]; rfl
        · have hL' : L + 1 < INFR := hL
          have ec : rv (L + true.toNat) * D = c := hcv
          rw [ec]
          have haN := hx2 rfl
          have m0 : mrD 0 false true nm = nm := by unfold mrD; simp
          have h3m := h3.m
          have hnm1 : nm.toNat ≤ 1 := by cases nm <;> decide
          rw [m0, outR_fin (by omega)] at h3m
          refine ⟨sgn_le0 (by omega), sgn_le0 (by omega), _, h3m, .inr ⟨(sgn_ne hL').1, sgn_self hL0, sgn_self hL, next_of_pos hL', ?_, ?_, ?_⟩⟩
          · rw [Int.sign_eq_neg_one_of_neg (by omega)]; decide
          · rw [Int.sign_eq_neg_one_of_neg (by omega)]; decide
          · unfold leftS
            rcases hpick with ⟨k1, k2⟩ | ⟨k1, k2⟩ | ⟨k1, k2⟩
            · exact .inl ⟨Int.sign_eq_neg_one_of_neg (by omega), by rw [k2]; rfl⟩
            · exact .inr (.inl ⟨Int.sign_eq_one_of_pos (by omega), by rw [k2]⟩)
            · refine .inr (.inr ⟨?_, even_sgn k2, ?_⟩)
              · rw [show X - (a : Int) - ((c : Int) - X) = 0 by omega]; rfl
              · cases nm
                · exact .inl rfl
                · exact .inr rfl
      · cases h2
  · rw [e] at hXs h3
    have hX : X = -(N : Int) := hXs.symm
    have hneg : X < 0 := by simpa using e
    refine ⟨?_, ?_, ?_, ?_, ?_⟩
    · rw [elo, sgn_nneg, hT]
      by_cases hL : L + inx.toNat < INFR
      · rw [if_pos hL, decide_eq_true (by have := hmax.1 hL; omega)]; rfl
      · rw [if_neg hL, decide_eq_false (by intro h; exact hL (hmax.2 (by omega)))]; rfl
    · rw [ehi, sgn_npos, hT, decide_eq_true (by omega)]; rfl
    · intro h
      rw [elo] at h
      by_cases hL : L + inx.toNat < INFR
      · rw [if_pos hL] at h; cases h
      · have hNT : ¬ N ≤ T := fun h => hL (hmax.2 h)
        have hi1 : inx.toNat ≤ 1 := by cases inx <;> decide
        rw [ehi, Nat.min_eq_right (by omega), hN, hT, Int.sign_eq_one_of_pos (by omega)]
        exact ⟨rfl, rfl⟩
    · intro h; rw [ehi] at h; cases h
    · intro p q h1 h2
      rw [elo] at h1
      rw [ehi] at h2
      split at h1
      · next hL =>
        have hi1 : inx.toNat ≤ 1 := by cases inx <;> decide
        rw [Nat.min_eq_left (by omega)] at h2
        have hL0 : L < INFR := by omega
        obtain rfl := Option.some.inj h1
        obtain rfl := Option.some.inj h2
        refine ⟨⟨⟨sgn_lt hL, sgn_fin hL⟩, sgn_lt hL0, sgn_fin hL0⟩, ?_⟩
        rw [sgn_fv hL0, sgn_fv hL, sgn_num, sgn_num, if_pos rfl, if_pos rfl, hav]
        cases inx
        · have hm := three_near h3 hn hL
          rw [Bool.toNat_false, Nat.add_zero, hav]
          obtain ⟨hnm, haN⟩ := hx1 rfl
          refine ⟨sgn_le0 (by omega), sgn_le0 (by omega), sgnR true L, ?_, .inl ⟨rfl, rfl, sgn_self hL0, ?_⟩⟩
          · rcases hm with h | ⟨h, -⟩
            · exact h
            · cases h
          · unfold leftS
            rw [show X - -(a : Int) - (-(a : Int) - X) = 0 by omega]; rfl
        · have hL' : L + 1 < INFR := hL
          have ec : rv (L + true.toNat) * D = c := hcv
          rw [ec]
          have haN := hx2 rfl
          have m0 : mrD 0 true true nm = nm := by unfold mrD; simp
          have h3m := h3.m
          have hnm1 : nm.toNat ≤ 1 := by cases nm <;> decide
          rw [m0, outR_fin (by omega)] at h3m
          refine ⟨sgn_le0 (by omega), sgn_le0 (by omega), _, h3m, .inr ⟨(sgn_ne hL').2, sgn_self hL, sgn_self hL0, next_of_neg hL', ?_, ?_, ?_⟩⟩
          · rw [Int.sign_eq_neg_one_of_neg (by omega)]; decide
          · rw [Int.sign_eq_neg_one_of_neg (by omega)]; decide
          · unfold leftS
            rcases hpick with ⟨k1, k2⟩ | ⟨k1, k2⟩ | ⟨k1, k2⟩
            · exact .inr (.inl ⟨Int.sign_eq_one_of_pos (by omega), by rw [k2]; rfl⟩)
            · exact .inl ⟨Int.sign_eq_neg_one_of_neg (by omega), by rw [k2]⟩
            · refine .inr (.inr ⟨?_, even_sgn k2, ?_⟩)
              · rw [show X - -(c : Int) - (-(a : Int) - X) = 0 by omega]; rfl
              · cases nm
                · exact .inr rfl
                · exact .inl rfl
      · cases h1
end Go.Proofs.YtfgdmiigmcnmpaaGreatFmt

namespace Go.Proofs.YtfgdmiigmcnmpaaGreatFmt
open Go.RowKit

/-! ### near is near; what is left, told at any scale; what Up and Down tell alike is exact -/
theorem rv_double {L : Nat} (h : L ≠ 0) : rv (L + 1) ≤ 2 * rv L := by
  obtain ⟨k, q, rfl, h1, h2⟩ := rung_split L
  rw [Nat.add_assoc, rv_at h1 (by omega), rv_at (q := q + 1) (h1.imp (fun h => by omega) id) (by omega)]
  have hq : 1 ≤ q := by
    rcases h1 with h1 | h1
    · omega
    · subst h1; omega
  rw [← Nat.mul_assoc]
  exact Nat.mul_le_mul_right _ (by omega)
theorem near_num {K : Nat} (hK : 1074 < K) {X : Int} {s : Nat} (hs : rndS 0 K X = some s) : ∃ L inx nm, Brk X.natAbs (2 ^ (K - 1074)) L inx nm ∧ L + nm.toNat < INFR ∧ s = sgnR (decide (X < 0)) (L + nm.toNat) := by
  obtain ⟨L, inx, nm, b, h⟩ := rndS_brk K hK X
  have h0 := h 0
  have m0 : mrD 0 (decide (X < 0)) inx nm = nm := by unfold mrD; simp
  rw [hs, m0] at h0
  rcases Nat.lt_or_ge (L + nm.toNat) INFR with hl | hl
  · rw [outR_fin hl] at h0
    exact ⟨L, inx, nm, b, hl, Option.some.inj h0⟩
  · rw [outR_none hl (by simp)] at h0
    cases h0
theorem near_close {K : Nat} (hK : 1074 < K) {X : Int} {s : Nat} (hs : rndS 0 K X = some s) :
    s < 18446744073709551616 ∧ fin s = true ∧ (fv s = 0 ∨ (X.natAbs ≤ 2 * (fv s * ((2 ^ (K - 1074) : Nat) : Int)).natAbs ∧ (fv s * ((2 ^ (K - 1074) : Nat) : Int)).natAbs ≤ 2 * X.natAbs)) := by
  obtain ⟨L, inx, nm, b, hl, rfl⟩ := near_num hK hs
  refine ⟨sgn_lt hl, sgn_fin hl, ?_⟩
  rw [sgn_fv hl, Int.natAbs_mul, Int.natAbs_natCast, sg_abs]
  obtain ⟨lo, hi, -, nr⟩ := b
  have hD : 0 < 2 ^ (K - 1074) := Nat.pow_pos (by decide)
  generalize 2 ^ (K - 1074) = D at *
  generalize X.natAbs = N at *
  cases nm
  · rw [Bool.toNat_false, Nat.add_zero] at *
    by_cases h0 : L = 0
    · left; rw [h0, rv_zero]; cases decide (X < 0) <;> rfl
    · right
      have h1 := rv_double h0
      have h2 : rv (L + 1) * D ≤ 2 * (rv L * D) := by rw [← Nat.mul_assoc]; exact Nat.mul_le_mul_right _ h1
      omega
  · rw [Bool.toNat_true] at *
    right
    have h1 : (rv L + rv (L + 1)) * D ≤ 2 * N := by
      have := nr.symm
      simp only [Bool.or_eq_true, Bool.and_eq_true, decide_eq_true_eq] at this
      omega
    rw [Nat.add_mul] at h1
    omega
theorem near_bd {K : Nat} (hK : 1074 < K) {X : Int} {s : Nat} (hs : rndS 0 K X = some s) : (fv s).natAbs < 2 ^ 2098 := by
  obtain ⟨h1, h2, -⟩ := near_close hK hs
  exact fv_bd h1 h2
theorem rest_alg (X F : Int) (D J : Nat) : (X - F * ((D : Nat) : Int)) * ((J : Nat) : Int) = X * ((J : Nat) : Int) - F * ((D * J : Nat) : Int) := by
  rw [Int.sub_mul, Int.mul_assoc, ← Int.natCast_mul]
theorem restS_scale {K : Nat} (hK : 1074 < K) (J : Nat) (X : Int) : restS (K + J) (X * ((2 ^ J : Nat) : Int)) = restS K X := by
  cases h : rndS 0 K X with
  | none =>
    have h' := rndS_scale 0 hK J X
    rw [h] at h'
    unfold restS; rw [h, h', Option.bind_none, Option.bind_none]
  | some s =>
    have h' := rndS_scale 0 hK J X
    rw [h] at h'
    have e : X * ((2 ^ J : Nat) : Int) - fv s * ((2 ^ (K + J - 1074) : Nat) : Int) = (X - fv s * ((2 ^ (K - 1074) : Nat) : Int)) * ((2 ^ J : Nat) : Int) := by
      rw [rest_alg, ← Nat.pow_add, show K - 1074 + J = K + J - 1074 from by omega]
    rw [restS_at h rfl, restS_at h' e, rndS_scale 1 hK, rndS_scale 2 hK]
/-- what Up and Down tell alike is exact -/
theorem sgn_same {n : Bool} {a b : Nat} (h : sval n a = sval n b) : a = b := by
  unfold sval at h
  split at h <;> omega
theorem both_exact {K : Nat} (hK : 1074 < K) {Z : Int} {v : Nat} (h1 : rndS 1 K Z = some v) (h2 : rndS 2 K Z = some v) : v < 18446744073709551616 ∧ fin v = true ∧ fv v * ((2 ^ (K - 1074) : Nat) : Int) = Z := by
  obtain ⟨L, inx, nm, b, h⟩ := rndS_brk K hK Z
  have hn : inx = false → nm = false := fun h => ((brk_ix b).1 h).1
  have h3 : Three (decide (Z < 0)) L inx nm (rndS 2 K Z) (rndS 1 K Z) (rndS 0 K Z) := ⟨h 2, h 1, h 0⟩
  have hmax : MAXB < INFR := by decide
  have hmin : min L MAXB < INFR := Nat.lt_of_le_of_lt (Nat.min_le_right _ _) hmax
  have ib : INFR = 9218868437227405312 := rfl
  have mb : MAXB = 9218868437227405311 := rfl
  have fin : ∀ n : Bool, decide (Z < 0) = n → L + inx.toNat < INFR → v = sgnR n (min L MAXB) → v = sgnR n (L + inx.toNat) → v < 18446744073709551616 ∧ fin v = true ∧ fv v * ((2 ^ (K - 1074) : Nat) : Int) = Z := by
    intro n hn' hlt e1 e2
    have hs := sgn_inj (a := n) (b := n) hmin hlt (e1.symm.trans e2)
    have hix : inx = false := by
      cases inx
      · rfl
      · rw [Bool.toNat_true] at hs hlt
        rw [Nat.min_eq_left (by omega)] at hs
        exact absurd (sgn_same hs) (by omega)
    subst hix
    rw [Bool.toNat_false, Nat.add_zero] at *
    refine ⟨by rw [e2]; exact sgn_lt hlt, by rw [e2]; exact sgn_fin hlt, ?_⟩
    rw [e2, sgn_fv hlt]
    have hb := ((brk_ix b).1 rfl).2
    rw [sg_pow, hb, ← hn']
    exact sg_self Z
  rcases three_cases h3 hn with ⟨e, hlo, hhi⟩ | ⟨e, hhi, hlo⟩
  · rw [h2] at hlo
    rw [h1] at hhi
    split at hhi
    · next hL => exact fin false e hL (Option.some.inj hlo) (Option.some.inj hhi)
    · cases hhi
  · rw [h1] at hhi
    rw [h2] at hlo
    split at hlo
    · next hL => exact fin true e hL (Option.some.inj hhi) (Option.some.inj hlo)
    · cases hlo
theorem restS_some {K : Nat} (hK : 1074 < K) {X : Int} {s v : Nat} (h : restS K X = some (s, v)) : rndS 0 K X = some s ∧ (s < 18446744073709551616 ∧ fin s = true) ∧ (v < 18446744073709551616 ∧ fin v = true) ∧ (fv s + fv v) * ((2 ^ (K - 1074) : Nat) : Int) = X := by
  cases h0 : rndS 0 K X with
  | none => unfold restS at h; rw [h0, Option.bind_none] at h; cases h
  | some s' =>
    rw [restS_at h0 rfl] at h
    obtain ⟨e, h1, h2⟩ := meet_some h
    simp only at e h1 h2
    subst e
    obtain ⟨a1, a2, a3⟩ := both_exact hK h1 h2
    obtain ⟨c1, c2, -⟩ := near_close hK h0
    exact ⟨rfl, ⟨c1, c2⟩, ⟨a1, a2⟩, by rw [Int.add_mul, a3]; omega⟩
/-- an exact real is told alike by all -/
theorem exact_told {K : Nat} (hK : 1074 < K) {n : Bool} {r : Nat} (hr : r < INFR) (d : Int) : rndS d K (sg n (rv r) * ((2 ^ (K - 1074) : Nat) : Int)) = some (sgnR n r) := rndS_word hK d n hr
/-- the two that stand near one another: the sum's bits -/
theorem close_bl {m1 m2 n1 n2 K N : Nat} {a b : Int} (ha : 0 ≤ a + K) (hb : 0 ≤ b + K) (l1 : bl m1 = 64 * n1) (l2 : bl m2 = 64 * n2) (c1 : m1 * 2 ^ (a + K).toNat ≤ 2 * (m2 * 2 ^ (b + K).toNat)) (c2 : m2 * 2 ^ (b + K).toNat ≤ 2 * (m1 * 2 ^ (a + K).toNat)) (h1 : n1 ≤ N) (h2 : n2 ≤ N) : bl (sumM m1 m2 a b) ≤ 64 * N + 2 := by
  have hs := sumM_mag (m1 := m1) (m2 := m2) ha hb
  obtain ⟨S, hS⟩ : ∃ S, sumM m1 m2 a b = S := ⟨_, rfl⟩
  rw [hS] at hs ⊢
  apply bl_le_of_lt
  have p : ∀ {m n : Nat}, bl m = 64 * n → n ≤ N → 3 * m < 2 ^ (64 * N + 2) := by
    intro m n h h'
    have h3 := bl_lt m
    rw [h] at h3
    have h4 : 2 ^ (64 * n) ≤ 2 ^ (64 * N) := Nat.pow_le_pow_right (by decide) (by omega)
    rw [Nat.pow_add]
    omega
  rcases Int.le_total a b with h | h
  · rw [Int.min_eq_left h] at hs
    have hP : 0 < 2 ^ (a + K).toNat := Nat.pow_pos (by decide)
    refine Nat.lt_of_le_of_lt ?_ (p l1 h1)
    refine Nat.le_of_mul_le_mul_right (c := 2 ^ (a + K).toNat) ?_ hP
    rw [Nat.mul_assoc]; omega
  · rw [Int.min_eq_right h] at hs
    have hP : 0 < 2 ^ (b + K).toNat := Nat.pow_pos (by decide)
    refine Nat.lt_of_le_of_lt ?_ (p l2 h2)
    refine Nat.le_of_mul_le_mul_right (c := 2 ^ (b + K).toNat) ?_ hP
    rw [Nat.mul_assoc]; omega
end Go.Proofs.YtfgdmiigmcnmpaaGreatFmt

namespace Go.Proofs.YtfgdmiigmcnmpaaGreatFmt
open Go.RowKit

/-! ### what is left of a sum is a number (RoundParts) -/
theorem rv_repr : ∀ (k m : Nat), m < 9007199254740992 → ∃ r, rv r = m * 2 ^ k
  | 0, m, h => ⟨0 * 4503599627370496 + m, rv_at (.inr rfl) (by omega)⟩
  | k + 1, m, h => by
    by_cases hm : 4503599627370496 ≤ m
    · exact ⟨(k + 1) * 4503599627370496 + m, rv_at (.inl hm) (by omega)⟩
    · obtain ⟨r, hr⟩ := rv_repr k (2 * m) (by omega)
      exact ⟨r, by rw [hr, Nat.pow_succ, Nat.mul_comm 2 m, Nat.mul_assoc, Nat.mul_comm 2]⟩
theorem rv_dvd {k q b : Nat} (h1 : 4503599627370496 ≤ q ∨ k = 0) (h : k * 4503599627370496 + q ≤ b) : 2 ^ k ∣ rv b := by
  obtain ⟨kb, qb, rfl, h3, h4⟩ := rung_split b
  rw [rv_at h3 (by omega)]
  have hk : k ≤ kb := by rcases h1 with h1 | h1 <;> omega
  exact Nat.dvd_trans (Nat.pow_dvd_pow 2 hk) (Nat.dvd_mul_left _ _)
/-- the number on whose multiples both rungs stand, or the rung is met -/
theorem rung_dvd {k L N : Nat} (hN : 2 ^ k ∣ N) (lo : rv L ≤ N) (hi : N < rv (L + 1)) : rv L = N ∨ (2 ^ k ∣ rv L ∧ 2 ^ k ∣ rv (L + 1)) := by
  obtain ⟨kl, ql, rfl, h3, h4⟩ := rung_split L
  have e1 := rv_at (k := kl) h3 (by omega)
  have e2 := rv_at (k := kl) (q := ql + 1) (h3.imp (fun h => by omega) id) (by omega)
  rw [Nat.add_assoc, e2] at hi ⊢
  rw [e1] at lo ⊢
  rcases Nat.lt_or_ge kl k with h | h
  · left
    obtain ⟨c, rfl⟩ : 2 ^ kl ∣ N := Nat.dvd_trans (Nat.pow_dvd_pow 2 (Nat.le_of_lt h)) hN
    have hP : 0 < 2 ^ kl := Nat.pow_pos (by decide)
    rw [Nat.mul_comm (2 ^ kl) c] at *
    have l1 := Nat.le_of_mul_le_mul_right lo hP
    have l2 := Nat.lt_of_mul_lt_mul_right hi
    have : c = ql := by omega
    rw [this]
  · right
    exact ⟨Nat.dvd_trans (Nat.pow_dvd_pow 2 h) (Nat.dvd_mul_left _ _), Nat.dvd_trans (Nat.pow_dvd_pow 2 h) (Nat.dvd_mul_left _ _)⟩
structure Nearby (N L : Nat) (nm : Bool) : Prop where
  lo : rv L ≤ N
  hi : N < rv (L + 1)
  t : nm = true → rv L + rv (L + 1) ≤ 2 * N
  f : nm = false → 2 * N ≤ rv L + rv (L + 1)
  e : rv L = N → nm = false
theorem nearby_of {N D L : Nat} {inx nm : Bool} (hD : 0 < D) (b : Brk (N * D) D L inx nm) : Nearby N L nm := by
  have hn := (brk_ix b).1
  obtain ⟨lo, hi, ix, nr⟩ := b
  refine ⟨Nat.le_of_mul_le_mul_right lo hD, Nat.lt_of_mul_lt_mul_right hi, fun h => ?_, fun h => ?_, fun h => ?_⟩
  · subst h
    refine Nat.le_of_mul_le_mul_right (c := D) ?_ hD
    have := nr.symm
    simp only [Bool.or_eq_true, Bool.and_eq_true, decide_eq_true_eq] at this
    rw [Nat.mul_assoc]
    omega
  · subst h
    refine Nat.le_of_mul_le_mul_right (c := D) ?_ hD
    have := nr.symm
    simp only [Bool.or_eq_false_iff, decide_eq_false_iff_not] at this
    rw [Nat.mul_assoc]
    omega
  · refine (hn ?_).1
    rw [ix, h]; simp
theorem near_core {na nb : Bool} {a b L : Nat} {nm : Bool} (hab : a ≤ b) (ha : a < INFR) {x : Int} (hx : x = sg na (rv a) + sg nb (rv b)) (h : Nearby x.natAbs L nm) :
    ∃ (n : Bool) (r : Nat), r < INFR ∧ x - sg (decide (x < 0)) (rv (L + nm.toNat)) = sg n (rv r) := by
  obtain ⟨k, q, rfl, h1, h2⟩ := rung_split a
  have ea := rv_at (k := k) h1 (by omega)
  have d1 : 2 ^ k ∣ rv b := rv_dvd h1 hab
  have d2 : 2 ^ k ∣ rv (k * 4503599627370496 + q) := rv_dvd h1 (Nat.le_refl _)
  have dN : 2 ^ k ∣ x.natAbs := by
    rw [← Int.ofNat_dvd_left, hx]
    have c : ∀ {n : Bool} {m : Nat}, 2 ^ k ∣ m → ((2 ^ k : Nat) : Int) ∣ sg n m := by
      intro n m h
      have h' := Int.natCast_dvd_natCast.2 h
      cases n
      · exact h'
      · exact (Int.dvd_neg).2 h'
    exact Int.dvd_add (c d2) (c d1)
  obtain ⟨R, hR⟩ : ∃ R, L + nm.toNat = R := ⟨_, rfl⟩
  rw [hR]
  have dR : 2 ^ k ∣ rv R := by
    rcases rung_dvd dN h.lo h.hi with he | ⟨e1, e2⟩
    · have := h.e he
      subst this
      rw [← hR, Bool.toNat_false, Nat.add_zero, he]; exact dN
    · rw [← hR]
      cases nm
      · exact e1
      · exact e2
  have hxx := sg_self x
  obtain ⟨N, hN⟩ : ∃ N, x.natAbs = N := ⟨_, rfl⟩
  rw [hN] at h dN hxx
  obtain ⟨lo, hi, ht, hf, -⟩ := h
  -- how far the nearest one is
  have far : (N ≤ rv R → rv R - N ≤ rv (k * 4503599627370496 + q)) ∧ (rv R ≤ N → N - rv R ≤ rv (k * 4503599627370496 + q)) := by
    have hb : rv b ≤ rv L ∨ rv (L + 1) ≤ rv b := by
      rcases Nat.lt_or_ge L b with h | h
      · exact .inr (rv_le h)
      · exact .inl (rv_le h)
    have hdist : (rv b ≤ N → N - rv b ≤ rv (k * 4503599627370496 + q)) ∧ (N ≤ rv b → rv b - N ≤ rv (k * 4503599627370496 + q)) := by
      have : x.natAbs = N := hN
      subst hx
      clear hxx ht hf hR dR dN d1 d2 ea
      generalize rv (k * 4503599627370496 + q) = A at *
      generalize rv b = B at *
      unfold sg at this
      split at this <;> split at this <;> omega
    have hRR : (nm = false ∧ rv R = rv L) ∨ (nm = true ∧ rv R = rv (L + 1)) := by
      subst hR
      cases nm
      · exact .inl ⟨rfl, rfl⟩
      · exact .inr ⟨rfl, rfl⟩
    generalize rv (k * 4503599627370496 + q) = A at *
    generalize rv b = B at *
    generalize rv L = l at *
    generalize rv (L + 1) = l1 at *
    generalize rv R = r at *
    rcases hRR with ⟨e1, e2⟩ | ⟨e1, e2⟩
    · have := hf e1
      omega
    · have := ht e1
      omega
  have hq : ∀ M : Nat, 2 ^ k ∣ M → M ≤ rv (k * 4503599627370496 + q) → ∃ r, r < INFR ∧ rv r = M := by
    rintro M ⟨c, rfl⟩ hM
    rw [ea, Nat.mul_comm (2 ^ k) c] at hM
    have hc : c ≤ q := Nat.le_of_mul_le_mul_right hM (Nat.pow_pos (by decide))
    obtain ⟨r, hr⟩ := rv_repr k c (by omega)
    refine ⟨r, ?_, by rw [hr, Nat.mul_comm]⟩
    refine Nat.lt_of_le_of_lt (Nat.le_of_not_lt fun hlt => ?_) ha
    have := rv_lt hlt
    rw [ea, hr] at this
    omega
  obtain ⟨n, hn⟩ : ∃ n, decide (x < 0) = n := ⟨_, rfl⟩
  rw [hn] at hxx ⊢
  rw [← hxx]
  rcases Nat.le_total N (rv R) with h | h
  · obtain ⟨r, hr1, hr2⟩ := hq (rv R - N) (Nat.dvd_sub dR dN) (far.1 h)
    refine ⟨!n, r, hr1, ?_⟩
    rw [hr2]
    cases n <;> simp only [sg, Bool.false_eq_true, if_false, if_true, Bool.not_true, Bool.not_false] <;> omega
  · obtain ⟨r, hr1, hr2⟩ := hq (N - rv R) (Nat.dvd_sub dN dR) (far.2 h)
    refine ⟨n, r, hr1, ?_⟩
    rw [hr2]
    cases n <;> simp only [sg, Bool.false_eq_true, if_false, if_true] <;> omega
theorem zneg' {Z : Int} {m : Nat} (hm : 0 < m) : decide (Z * (m : Int) < 0) = decide (Z < 0) := by
  rw [Bool.eq_iff_iff, decide_eq_true_eq, decide_eq_true_eq]
  constructor
  · intro h
    rcases Int.lt_or_le Z 0 with h1 | h1
    · exact h1
    · have := Int.mul_nonneg h1 (show (0 : Int) ≤ (m : Int) by omega); omega
  · intro h
    exact Int.mul_neg_of_neg_of_pos h (by omega)
set_option exponentiation.threshold 3000 in
theorem sum_left {u v s : Nat} (hu : u < 18446744073709551616) (hv : v < 18446744073709551616) (fu : fin u = true) (fv' : fin v = true) (hs : rndS 0 2148 (exS 1 u v) = some s) :
    (restS 2148 (exS 1 u v)).isSome = true := by
  have eu := fv_zero_iff hu fu
  have ev := fv_zero_iff hv fv'
  have hru := (word_of hu fu).2
  have hrv := (word_of hv fv').2
  obtain ⟨L, inx, nm, b, hl, rfl⟩ := near_num (by decide) hs
  rw [exS_1, show 2148 - 1074 = 1074 from rfl] at b
  have hP : 0 < 2 ^ 1074 := Nat.pow_pos (by decide)
  have hneg : decide (exS 1 u v < 0) = decide (fv u + fv v < 0) := by rw [exS_1]; exact zneg' hP
  rw [hneg] at hs
  rw [Int.natAbs_mul, Int.natAbs_natCast] at b
  have nb := nearby_of hP b
  have hz : ∃ (n : Bool) (r : Nat), r < INFR ∧ fv u + fv v - sg (decide (fv u + fv v < 0)) (rv (L + nm.toNat)) = sg n (rv r) := by
    rcases Nat.le_total (uabs u) (uabs v) with h | h
    · exact near_core h hru (by rw [eu, ev]) nb
    · exact near_core h hrv (by rw [eu, ev, Int.add_comm]) nb
  obtain ⟨n, r, hr, hz⟩ := hz
  have hZ : exS 1 u v - fv (sgnR (decide (fv u + fv v < 0)) (L + nm.toNat)) * ((2 ^ (2148 - 1074) : Nat) : Int) = sg n (rv r) * ((2 ^ (2148 - 1074) : Nat) : Int) := by
    rw [exS_1, sgn_fv hl, ← hz, show 2148 - 1074 = 1074 from rfl, Int.sub_mul]
  rw [restS_at hs hZ, rndS_word (by decide) 1 n hr, rndS_word (by decide) 2 n hr, meet_same]
  rfl
end Go.Proofs.YtfgdmiigmcnmpaaGreatFmt
