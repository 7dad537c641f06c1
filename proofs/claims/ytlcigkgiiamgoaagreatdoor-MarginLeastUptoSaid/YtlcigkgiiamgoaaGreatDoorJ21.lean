/- Walks and plain laws of this seat's functions, part 21: H1 H2. -/
import Derived.Test.YtlcigkgiiamgoaaGreatDoorJ14
set_option linter.unusedVariables false
set_option linter.unusedSimpArgs false
namespace Go.Proofs.YtlcigkgiiamgoaaGreatDoor
open Go.RowKit

/-! ### the plain law of MarginHolds -/
/-- columns at a point -/
def ptG (G : List (List Nat)) (Q : Nat → Int) (i : Nat) : Nat → Int
  | 0 => 0
  | k + 1 => ptG G Q i k + Q k * fv ((G.getD k []).getD i 0)
/-- a claim's sum at a point, in parts of 2^-(2148 + d) -/
def holdV (a C R : List Nat) (G : List (List Nat)) (P Q : Nat → Int) (N K d : Nat) : Nat → Int
  | 0 => fv (a.getD N 0) * (2 ^ (1074 + d) : Nat)
  | i + 1 => holdV a C R G P Q N K d i + fv (a.getD i 0) * (fv (C.getD i 0) * (2 ^ d : Nat) + P i * fv (R.getD i 0) + ptG G Q i K)
def boxP (a R : List Nat) (P : Nat → Int) : Nat → Int
  | 0 => 0
  | i + 1 => boxP a R P i + fv (a.getD i 0) * (P i * fv (R.getD i 0))
def colP (a : List Nat) (G : List (List Nat)) (Q : Nat → Int) (K : Nat) : Nat → Int
  | 0 => 0
  | i + 1 => colP a G Q K i + fv (a.getD i 0) * ptG G Q i K
theorem colP_zero (a : List Nat) (G : List (List Nat)) (Q : Nat → Int) : ∀ n, colP a G Q 0 n = 0
  | 0 => rfl
  | n + 1 => by rw [colP, colP_zero a G Q n, ptG, Int.mul_zero]; rfl
theorem colP_succ (a : List Nat) (G : List (List Nat)) (Q : Nat → Int) (k : Nat) : ∀ n, colP a G Q (k + 1) n = colP a G Q k n + Q k * dotS a (G.getD k []) n
  | 0 => by simp [colP, dotS]
  | n + 1 => by
    rw [colP, colP, dotS, colP_succ a G Q k n, ptG, Int.mul_add, Int.mul_add]
    have : fv (a.getD n 0) * (Q k * fv ((G.getD k []).getD n 0)) = Q k * (fv (a.getD n 0) * fv ((G.getD k []).getD n 0)) := Int.mul_left_comm _ _ _
    omega
theorem mul_ge {q x D : Int} (h1 : -D ≤ q) (h2 : q ≤ D) : -(D * (x.natAbs : Int)) ≤ q * x := by
  have h3 : q.natAbs ≤ D.natAbs := by omega
  have h4 := Nat.mul_le_mul_right x.natAbs h3
  rw [← Int.natAbs_mul] at h4
  have h5 : ((D.natAbs * x.natAbs : Nat) : Int) = D * (x.natAbs : Int) := by
    rw [Int.natCast_mul]; congr 1; omega
  omega
theorem colP_ge {a : List Nat} {G : List (List Nat)} {Q : Nat → Int} {D : Int} (hQ : ∀ k, -D ≤ Q k ∧ Q k ≤ D) (n : Nat) : ∀ K, -(D * colsS a G n K) ≤ colP a G Q K n
  | 0 => by rw [colP_zero, colsS]; omega
  | K + 1 => by
    have ih := colP_ge hQ n K (a := a) (G := G)
    have h := mul_ge (hQ K).1 (hQ K).2 (x := dotS a (G.getD K []) n)
    rw [colP_succ, colsS, Int.mul_add]
    omega
theorem boxP_ge {a R : List Nat} {P : Nat → Int} {D : Int} (hP : ∀ k, -D ≤ P k ∧ P k ≤ D) : ∀ n, (∀ i, i < n → 0 ≤ fv (R.getD i 0)) → -(D * boxS a R n) ≤ boxP a R P n
  | 0, _ => by rw [boxP, boxS]; omega
  | n + 1, hR => by
    have ih := boxP_ge hP n (fun i hi => hR i (by omega)) (a := a) (R := R)
    have h := mul_ge (hP n).1 (hP n).2 (x := fv (a.getD n 0) * fv (R.getD n 0))
    have hr := hR n (by omega)
    rw [Int.natAbs_mul, Int.natCast_mul, show ((fv (R.getD n 0)).natAbs : Int) = fv (R.getD n 0) from by omega] at h
    have e1 : fv (a.getD n 0) * (P n * fv (R.getD n 0)) = P n * (fv (a.getD n 0) * fv (R.getD n 0)) := Int.mul_left_comm _ _ _
    rw [boxP, boxS, Int.mul_add, e1]
    omega
theorem holdV_split (a C R : List Nat) (G : List (List Nat)) (P Q : Nat → Int) (N K d : Nat) : ∀ n, holdV a C R G P Q N K d n = fv (a.getD N 0) * (2 ^ (1074 + d) : Nat) + (2 ^ d : Nat) * dotS a C n + boxP a R P n + colP a G Q K n
  | 0 => by simp [holdV, dotS, boxP, colP]
  | n + 1 => by
    rw [holdV, holdV_split a C R G P Q N K d n, dotS, boxP, colP, Int.mul_add, Int.mul_add, Int.mul_add]
    have : fv (a.getD n 0) * (fv (C.getD n 0) * ((2 ^ d : Nat) : Int)) = ((2 ^ d : Nat) : Int) * (fv (a.getD n 0) * fv (C.getD n 0)) := by
      rw [← Int.mul_assoc, Int.mul_comm]
    omega
set_option exponentiation.threshold 6000 in
theorem holdV_ge {z : Zn} {a : List Nat} {P Q : Nat → Int} {d : Nat} (hP : ∀ k, -((2 ^ d : Nat) : Int) ≤ P k ∧ P k ≤ (2 ^ d : Nat)) (hQ : ∀ k, -((2 ^ d : Nat) : Int) ≤ Q k ∧ Q k ≤ (2 ^ d : Nat))
    (hR : ∀ i, i < z.N.toNat → 0 ≤ fv (z.R.getD i 0)) : (2 ^ d : Nat) * leastV z a ≤ holdV a z.C z.R z.G P Q z.N.toNat z.Ids.length d z.N.toNat := by
  have h1 := colP_ge hQ z.N.toNat z.Ids.length (a := a) (G := z.G)
  have h2 := boxP_ge hP z.N.toNat hR (a := a)
  rw [holdV_split, leastV, Int.mul_sub, Int.mul_sub, Int.mul_add]
  have : ((2 ^ d : Nat) : Int) * (fv (a.getD z.N.toNat 0) * ((2 ^ 1074 : Nat) : Int)) = fv (a.getD z.N.toNat 0) * ((2 ^ (1074 + d) : Nat) : Int) := by
    rw [Nat.pow_add, Int.natCast_mul, Int.mul_left_comm, Int.mul_comm ((2 ^ d : Nat) : Int)]
  omega
end Go.Proofs.YtlcigkgiiamgoaaGreatDoor

namespace Go.Proofs.YtlcigkgiiamgoaaGreatDoor
open Go.RowKit

/-! ### what is rounded down is not above -/
theorem fv_pack {neg : Bool} {q : Nat} {e : Int} (hq : q < 9007199254740992) (he : -1074 ≤ e) (he2 : e ≤ 971) (hs : q < 4503599627370496 → e = -1074) : fv (packB neg q e) = sg neg (q * 2 ^ (e + 1074).toNat) := by
  have hsg : sgnB neg = 0 ∧ neg = false ∨ sgnB neg = 9223372036854775808 ∧ neg = true := by cases neg <;> simp [sgnB]
  unfold packB
  split
  · rename_i h
    obtain ⟨E, hE⟩ : ∃ E : Nat, (e + 1075).toNat = E := ⟨_, rfl⟩
    have hE1 : 1 ≤ E := by omega
    have hE2 : E ≤ 2046 := by omega
    have hE3 : (e + 1074).toNat = E - 1 := by omega
    rw [hE, hE3]
    clear he he2 hs hE hE3
    have h1 : fexp (E * 4503599627370496 + (q - 4503599627370496) + sgnB neg) = E := by unfold fexp; omega
    have h2 : fman (E * 4503599627370496 + (q - 4503599627370496) + sgnB neg) = q := by unfold fman; rw [h1, if_neg (by omega)]; omega
    have h3 : fneg (E * 4503599627370496 + (q - 4503599627370496) + sgnB neg) = neg := by
      unfold fneg
      rcases hsg with ⟨hs, rfl⟩ | ⟨hs, rfl⟩
      · exact decide_eq_false (by omega)
      · exact decide_eq_true (by omega)
    have h4 : uexp (E * 4503599627370496 + (q - 4503599627370496) + sgnB neg) = E := by unfold uexp; rw [h1]; omega
    rw [fv_eq, h2, h3, h4]
  · rename_i h
    have he1 : e = -1074 := hs (by omega)
    subst he1
    split
    · rename_i h0
      have h1 : fexp (q + sgnB neg) = 0 := by unfold fexp; omega
      have h2 : fman (q + sgnB neg) = q := by unfold fman; rw [h1, if_pos rfl]; omega
      have h3 : fneg (q + sgnB neg) = neg := by
        unfold fneg
        rcases hsg with ⟨hs, rfl⟩ | ⟨hs, rfl⟩
        · exact decide_eq_false (by omega)
        · exact decide_eq_true (by omega)
      have h4 : uexp (q + sgnB neg) = 1 := by unfold uexp; rw [h1]; rfl
      rw [fv_eq, h2, h3, h4]
      rfl
    · rename_i h0
      obtain rfl : q = 0 := by omega
      rw [fv_zero, Nat.zero_mul, sg_zero]
set_option exponentiation.threshold 6000 in
theorem fv_top : fv 9218868437227405311 = ((9007199254740991 * 2 ^ 2045 : Nat) : Int) := by
  rw [← top_num, fv_pack (by decide) (by decide) (by decide) (by decide), show ((971 : Int) + 1074).toNat = 2045 from by decide]
  generalize 9007199254740991 * 2 ^ 2045 = t
  rfl
theorem sg_scale (neg : Bool) (a b : Nat) : sg neg a * ((b : Nat) : Int) = sg neg (a * b) := by
  cases neg
  · simp [sg]
  · simp [sg, Int.neg_mul]
theorem pow_join {s K : Nat} {e : Int} (he : e = (s : Int) - K) (hs : K - 1074 ≤ s) (hK : 1074 ≤ K) : 2 ^ (e + 1074).toNat * 2 ^ (K - 1074) = 2 ^ s := by
  rw [← Nat.pow_add, show (e + 1074).toNat + (K - 1074) = s from by omega]
theorem pow_join1 {s K : Nat} {e : Int} (he : e = (s : Int) - K + 1) (hs : K - 1074 ≤ s) (hK : 1074 ≤ K) : 2 ^ (e + 1074).toNat * 2 ^ (K - 1074) = 2 * 2 ^ s := by
  rw [← Nat.pow_add, show (e + 1074).toNat + (K - 1074) = s + 1 from by omega, Nat.pow_succ, Nat.mul_comm]
set_option exponentiation.threshold 6000 in
theorem rdown_le {K : Nat} (hK : 1074 ≤ K) {X : Int} {u : Nat} (h : rdown K X = some u) : fv u * (2 ^ (K - 1074) : Nat) ≤ X := by
  by_cases h0 : X = 0
  · unfold rdown at h; rw [if_pos h0] at h; injection h with h; subst h; rw [fv_zero, Int.zero_mul]; omega
  · obtain ⟨h1, h2, h3⟩ := rdown_parts hK h0
    unfold rdown at h
    rw [if_neg h0] at h
    obtain ⟨n, hn⟩ : ∃ n, X.natAbs = n := ⟨_, rfl⟩
    rw [hn] at h h1 h2 h3
    obtain ⟨s, hs⟩ : ∃ s, shD K n = s := ⟨_, rfl⟩
    rw [hs] at h h1 h2 h3
    have hp : 0 < 2 ^ s := Nat.pow_pos (by decide)
    have hdm := Nat.div_add_mod n (2 ^ s)
    have hml := Nat.mod_lt n hp
    obtain ⟨q, hq⟩ : ∃ q, n / 2 ^ s = q := ⟨_, rfl⟩
    rw [hq] at h h1 h2 hdm
    obtain ⟨e, he⟩ : ∃ e : Int, (s : Int) - K = e := ⟨_, rfl⟩
    rw [he] at h
    by_cases hx : X < 0
    · rw [decide_eq_true hx, Bool.true_and] at h
      obtain ⟨q', hq'⟩ : ∃ q', q + (if decide (n % 2 ^ s ≠ 0) then 1 else 0) = q' := ⟨_, rfl⟩
      have hqs : n ≤ q' * 2 ^ s ∧ q ≤ q' ∧ q' ≤ q + 1 := by
        rw [← hq']
        by_cases hr : n % 2 ^ s = 0
        · rw [decide_eq_false (by simpa using hr)]
          refine ⟨?_, by simp, by simp⟩
          simp only [Bool.false_eq_true, if_false, Nat.add_zero]
          rw [Nat.mul_comm]; omega
        · rw [decide_eq_true (by simpa using hr)]
          refine ⟨?_, by simp, by simp⟩
          simp only [if_true]
          rw [Nat.mul_comm, Nat.mul_add]; omega
      rw [hq'] at h
      clear hq'
      unfold downEnd at h
      split at h
      · rename_i hq3
        unfold finD at h
        split at h
        · simp at h
        · rename_i he2
          injection h with h
          subst h
          rw [fv_pack (by decide) (by omega) (by omega) (fun hh => absurd hh (by decide)), sg_scale, Nat.mul_assoc, pow_join1 (show e + 1 = (s : Int) - K + 1 by omega) h3 hK]
          have : q' * 2 ^ s = 4503599627370496 * (2 * 2 ^ s) := by rw [hq3, ← Nat.mul_assoc]
          generalize 4503599627370496 * (2 * 2 ^ s) = t at *
          have : sg true t = -(t : Int) := rfl
          omega
      · rename_i hq3
        unfold finD at h
        split at h
        · simp at h
        · rename_i he2
          injection h with h
          subst h
          rw [fv_pack (by omega) (by omega) (by omega) (by intro hh; have := h2 (by omega); omega), sg_scale, Nat.mul_assoc, pow_join (show e = (s : Int) - K by omega) h3 hK]
          generalize q' * 2 ^ s = t at *
          have : sg true t = -(t : Int) := rfl
          omega
    · rw [decide_eq_false hx, Bool.false_and] at h
      simp only [Bool.false_eq_true, if_false, Nat.add_zero] at h
      unfold downEnd at h
      rw [if_neg (by omega)] at h
      unfold finD at h
      split at h
      · rename_i he2
        simp only [Bool.false_eq_true, if_false] at h
        injection h with h
        subst h
        have hq2 : 4503599627370496 ≤ q := by
          rcases Nat.lt_or_ge q 4503599627370496 with hh | hh
          · have := h2 hh; omega
          · exact hh
        rw [fv_top, ← Int.natCast_mul]
        have e1 : 9007199254740991 * 2 ^ 2045 * 2 ^ (K - 1074) ≤ 2 ^ 53 * 2 ^ (2045 + (K - 1074)) := by
          rw [Nat.pow_add, ← Nat.mul_assoc]
          exact Nat.mul_le_mul_right _ (Nat.mul_le_mul_right _ (by decide))
        have e2 : 2 ^ 53 * 2 ^ (2045 + (K - 1074)) ≤ 2 ^ s * q := by
          refine Nat.le_trans ?_ (Nat.mul_le_mul_left _ hq2)
          rw [show (4503599627370496 : Nat) = 2 ^ 52 from by decide, ← Nat.pow_add, ← Nat.pow_add]
          exact Nat.pow_le_pow_right (by decide) (by omega)
        have e3 : (9007199254740991 * 2 ^ 2045 * 2 ^ (K - 1074) : Nat) ≤ n := by
          generalize 9007199254740991 * 2 ^ 2045 * 2 ^ (K - 1074) = t1 at *
          generalize 2 ^ 53 * 2 ^ (2045 + (K - 1074)) = t2 at *
          omega
        generalize 9007199254740991 * 2 ^ 2045 * 2 ^ (K - 1074) = t at *
        omega
      · rename_i he2
        injection h with h
        subst h
        rw [fv_pack (by omega) (by omega) (by omega) (by intro hh; have := h2 (by omega); omega), sg_scale, Nat.mul_assoc, pow_join (show e = (s : Int) - K by omega) h3 hK, Nat.mul_comm]
        generalize 2 ^ s * q = t at *
        have : sg false t = (t : Int) := rfl
        omega
set_option exponentiation.threshold 6000 in
/-- the margin is not above the least -/
theorem margin_le {z : Zn} {a : List Nat} {m : Nat} (h : marginS z a = some m) : fv m * (2 ^ 1074 : Nat) ≤ leastV z a := by
  unfold marginS at h
  split at h
  · exact rdown_le (K := 2148) (by decide) h
  · cases h
end Go.Proofs.YtlcigkgiiamgoaaGreatDoor
