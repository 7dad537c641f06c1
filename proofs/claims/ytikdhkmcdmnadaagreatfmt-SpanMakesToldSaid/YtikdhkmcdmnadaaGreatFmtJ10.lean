/- Walks and plain laws of this seat's functions, part 10: U1. -/
import Derived.Shelf.Bits.Mul64
import Derived.Test.YtikdhkmcdmnadaaGreatFmtJ04
import Derived.Test.YtikdhkmcdmnadaaGreatFmtJ09
set_option linter.unusedVariables false
set_option linter.unusedSimpArgs false
namespace Go.Proofs.YtikdhkmcdmnadaaGreatFmt
open Go.RowKit

set_option maxHeartbeats 1000000 in
theorem mul64_calls (x y : Nat) (hx : x < 18446744073709551616) (hy : y < 18446744073709551616) (w : World) :
    Calls Tryz.prog 150 #[.int .u64 x, .int .u64 y] w fun e w' => e = .returned (.tuple #[.int .u64 ((x * y / 18446744073709551616 : Nat) : Int), .int .u64 ((x * y % 18446744073709551616 : Nat) : Int)]) ∧ w = w' := by
  obtain ⟨bd, bt, bw, hhi⟩ := Lib.mul64_hi x y hx hy
  have ba := Lib.half_mul_le (a := x / 4294967296) (b := y / 4294967296) (by omega) (by omega)
  have bb := Lib.half_mul_le (a := x / 4294967296) (b := y % 4294967296) (by omega) (by omega)
  have bc := Lib.half_mul_le (a := x % 4294967296) (b := y / 4294967296) (by omega) (by omega)
  have ba' : x / 4294967296 * (y / 4294967296) < 18446744073709551616 := by omega
  have bb' : x / 4294967296 * (y % 4294967296) < 18446744073709551616 := by omega
  have bc' : x % 4294967296 * (y / 4294967296) < 18446744073709551616 := by omega
  have bh1 : x / 4294967296 * (y / 4294967296) + (x / 4294967296 * (y % 4294967296) + x % 4294967296 * (y % 4294967296) / 4294967296) / 4294967296 < 18446744073709551616 := by omega
  have bh : x / 4294967296 * (y / 4294967296) + (x / 4294967296 * (y % 4294967296) + x % 4294967296 * (y % 4294967296) / 4294967296) / 4294967296 + ((x / 4294967296 * (y % 4294967296) + x % 4294967296 * (y % 4294967296) / 4294967296) % 4294967296 + x % 4294967296 * (y / 4294967296)) / 4294967296 < 18446744073709551616 := by omega
  go_enter Tryz.func150, Tryz.ntmps150
  go_wp2
  simp only [Mul64.maskN x hx, Mul64.maskN y hy, Mul64.divN, Mul64.mulN, Mul64.addN, Mul64.wrapN _ bd, Mul64.wrapN _ bb', Mul64.wrapN _ bt, Mul64.maskN _ bt, Mul64.wrapN _ bc', Mul64.wrapN _ bw, Mul64.wrapN _ ba', Mul64.wrapN _ bh1, Mul64.wrapN _ bh, Mul64.wrapM (x * y)]
  rw [hhi]
  go_ret2
  exact ⟨rfl, rfl⟩
set_option maxHeartbeats 1000000 in
theorem apibits_calls (u : Nat) (w : World) : Calls Tryz.prog 4 #[.float .f64 u] w fun e w' => e = .returned (.int .u64 u) ∧ w = w' := by
  go_enter Tryz.func4, Tryz.ntmps4
  go_wp2
  go_ret
  exact ⟨rfl, rfl⟩
def uexp (u : Nat) : Nat := max (fexp u) 1
theorem fman_lt (u : Nat) : fman u < 9007199254740992 := by
  have := Nat.mod_lt u (show 0 < 4503599627370496 by decide)
  unfold fman; split <;> omega
theorem uexp_lt {u : Nat} (h : fin u = true) : 1 ≤ uexp u ∧ uexp u ≤ 2046 := by
  have h1 := fexp_lt u
  have h2 : fexp u ≠ 2047 := by simpa [fin] using h
  unfold uexp; omega
theorem fv_eq (u : Nat) : fv u = sg (fneg u) (fman u * 2 ^ (uexp u - 1)) := rfl
theorem sg_times (a b : Bool) (m n : Nat) : sg a m * sg b n = sg (a != b) (m * n) := by
  cases a <;> cases b <;> simp [sg, Int.natCast_mul, Int.neg_mul, Int.mul_neg]
theorem sg_pow (a : Bool) (m n : Nat) : sg a m * (n : Int) = sg a (m * n) := by cases a <;> simp [sg, Int.natCast_mul, Int.neg_mul]
end Go.Proofs.YtikdhkmcdmnadaaGreatFmt
