/- Walks and plain laws of this seat's functions, part 23: H3. -/
import Derived.Test.YtlcigkgiiamgoaaGreatDoorJ21
import Derived.Test.YtlcigkgiiamgoaaGreatDoorJ22
set_option linter.unusedVariables false
set_option linter.unusedSimpArgs false
namespace Go.Proofs.YtlcigkgiiamgoaaGreatDoor
open Go.RowKit

/-! ### how great a claim's sum at a point may be -/
/-- a coordinate at a point, in parts of 2^-(1074 + d) -/
def cenV (C R : List Nat) (G : List (List Nat)) (P Q : Nat → Int) (d i k : Nat) : Int := fv (C.getD i 0) * (2 ^ d : Nat) + P i * fv (R.getD i 0) + ptG G Q i k
theorem mul_le2 {x y : Int} {M N : Nat} (hx : x.natAbs ≤ M) (hy : y.natAbs ≤ N) : (x * y).natAbs ≤ M * N := by
  rw [Int.natAbs_mul]; exact Nat.mul_le_mul hx hy
theorem ptG_bd {G : List (List Nat)} {Q : Nat → Int} {D i : Nat} (hQ : ∀ k, (Q k).natAbs ≤ D) : ∀ k, (∀ j, j < k → fin ((G.getD j []).getD i 0) = true) → (ptG G Q i k).natAbs ≤ k * (D * fMax)
  | 0, _ => by simp [ptG]
  | k + 1, h => by
    have ih := ptG_bd hQ k (fun j hj => h j (by omega)) (G := G) (i := i)
    have h2 := mul_le2 (hQ k) (fv_le_max (h k (by omega)))
    rw [ptG, Nat.add_mul, Nat.one_mul]
    generalize D * fMax = M at *
    generalize k * M = K at *
    omega
theorem cenV_bd {C R : List Nat} {G : List (List Nat)} {P Q : Nat → Int} {d i : Nat} (hP : ∀ k, (P k).natAbs ≤ 2 ^ d) (hQ : ∀ k, (Q k).natAbs ≤ 2 ^ d) (hC : fin (C.getD i 0) = true) (hR : fin (R.getD i 0) = true) (k : Nat) (h : ∀ j, j < k → fin ((G.getD j []).getD i 0) = true) :
    (cenV C R G P Q d i k).natAbs ≤ (k + 2) * (2 ^ d * fMax) := by
  have h1 := mul_le2 (y := ((2 ^ d : Nat) : Int)) (fv_le_max hC) (Nat.le_of_eq (Int.natAbs_natCast _))
  have h2 := mul_le2 (hP i) (fv_le_max hR)
  have h3 := ptG_bd hQ k h
  rw [Nat.mul_comm] at h1
  rw [cenV, Nat.add_mul]
  generalize 2 ^ d * fMax = M at *
  generalize k * M = K at *
  omega
theorem holdV_bd {a C R : List Nat} {G : List (List Nat)} {P Q : Nat → Int} {N K d : Nat} (hP : ∀ k, (P k).natAbs ≤ 2 ^ d) (hQ : ∀ k, (Q k).natAbs ≤ 2 ^ d) (ha : ∀ i, i ≤ N → fin (a.getD i 0) = true) (hC : ∀ i, i < N → fin (C.getD i 0) = true) (hR : ∀ i, i < N → fin (R.getD i 0) = true)
    (h : ∀ i j, i < N → j < K → fin ((G.getD j []).getD i 0) = true) : ∀ n, n ≤ N → (holdV a C R G P Q N K d n).natAbs ≤ fMax * 2 ^ (1074 + d) + n * (fMax * ((K + 2) * (2 ^ d * fMax)))
  | 0, _ => by
    rw [holdV]
    have := mul_le2 (y := ((2 ^ (1074 + d) : Nat) : Int)) (fv_le_max (ha N (Nat.le_refl _))) (Nat.le_of_eq (Int.natAbs_natCast _))
    generalize fMax * 2 ^ (1074 + d) = t at *
    omega
  | n + 1, hn => by
    have ih := holdV_bd hP hQ ha hC hR h n (by omega)
    have h1 := cenV_bd hP hQ (hC n (by omega)) (hR n (by omega)) K (fun j hj => h n j (by omega) hj)
    have h2 := mul_le2 (fv_le_max (ha n (by omega))) h1
    rw [holdV, Nat.add_mul, Nat.one_mul]
    unfold cenV at h2
    generalize fMax * ((K + 2) * (2 ^ d * fMax)) = M at *
    generalize n * M = t at *
    generalize fMax * 2 ^ (1074 + d) = s at *
    omega
set_option exponentiation.threshold 6000 in
theorem hold_cap {d K n N : Nat} (hd : d ≤ 30) (hK : K ≤ 17592186044416) (hn : n ≤ N) (hN : N ≤ 256) :
    fMax * 2 ^ (1074 + d) + n * (fMax * ((K + 2) * (2 ^ d * fMax))) < 2 ^ CapL ∧ fMax * ((K + 2) * (2 ^ d * fMax)) < 2 ^ CapL ∧ (K + 2) * (2 ^ d * fMax) < 2 ^ CapL ∧ 2 ^ d * fMax < 2 ^ CapL := by
  have hD : 2 ^ d ≤ 1073741824 := (pow_le30 hd).2
  have hp := pow1074_le
  have hF : F2 = fMax * fMax := rfl
  have hc := F2_cap
  rw [← cap_eqL]
  have hf0 : 0 < fMax := by unfold fMax; exact Nat.mul_pos (by decide) (Nat.pow_pos (by decide))
  have hf1 : fMax ≤ F2 := by rw [hF]; exact Nat.le_mul_of_pos_left _ hf0
  have e1 : fMax * 2 ^ (1074 + d) ≤ 1073741824 * F2 := by
    rw [Nat.pow_add, hF]
    calc fMax * (2 ^ 1074 * 2 ^ d) ≤ fMax * (fMax * 1073741824) := Nat.mul_le_mul_left _ (Nat.mul_le_mul hp hD)
      _ = 1073741824 * (fMax * fMax) := by rw [Nat.mul_comm fMax 1073741824, Nat.mul_left_comm]
  have e2 : fMax * ((K + 2) * (2 ^ d * fMax)) ≤ (17592186044418 * 1073741824) * F2 := by
    rw [hF]
    calc fMax * ((K + 2) * (2 ^ d * fMax)) ≤ fMax * (17592186044418 * (1073741824 * fMax)) := Nat.mul_le_mul_left _ (Nat.mul_le_mul (by omega) (Nat.mul_le_mul_right _ hD))
      _ = (17592186044418 * 1073741824) * (fMax * fMax) := by rw [← Nat.mul_assoc 17592186044418, Nat.mul_left_comm]
  have e3 : n * (fMax * ((K + 2) * (2 ^ d * fMax))) ≤ 256 * ((17592186044418 * 1073741824) * F2) := Nat.mul_le_mul (by omega) e2
  have e4 : (K + 2) * (2 ^ d * fMax) ≤ 17592186044418 * (1073741824 * F2) := Nat.mul_le_mul (by omega) (Nat.mul_le_mul hD hf1)
  have e5 : 2 ^ d * fMax ≤ 1073741824 * F2 := Nat.mul_le_mul hD hf1
  have e6 : 72057594037927936 * F2 * 2 ^ 64 = 72057594037927936 * 18446744073709551616 * F2 := by rw [show (2 : Nat) ^ 64 = 18446744073709551616 from by decide, Nat.mul_right_comm]
  rw [e6] at hc
  generalize fMax * 2 ^ (1074 + d) = t1 at *
  generalize n * (fMax * ((K + 2) * (2 ^ d * fMax))) = t2 at *
  generalize fMax * ((K + 2) * (2 ^ d * fMax)) = t3 at *
  generalize (K + 2) * (2 ^ d * fMax) = t4 at *
  generalize 2 ^ d * fMax = t5 at *
  generalize Cap = cp at *
  clear hF hf1 hp hf0
  generalize F2 = f at *
  refine ⟨by omega, by omega, by omega, by omega⟩
end Go.Proofs.YtlcigkgiiamgoaaGreatDoor
