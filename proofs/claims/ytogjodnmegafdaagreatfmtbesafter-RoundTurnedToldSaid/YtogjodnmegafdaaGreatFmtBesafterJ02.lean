/- Walks and plain laws of this seat's functions, part 2: R2a R2b R2c R2d R2e R2f R2g R2h R2i. -/
import Derived.Test.YtogjodnmegafdaaGreatFmtBesafterJ01
set_option linter.unusedVariables false
set_option linter.unusedSimpArgs false
namespace Go.Proofs.YtogjodnmegafdaaGreatFmtBesafter
open Go.RowKit

/-! ### ambitref2: whole numbers as words of 32 bits -/
/-! cmp -/
def cmpN (x y : Nat) : Int := if x < y then -1 else if y < x then 1 else 0
theorem cmpN_lt {x y : Nat} (h : x < y) : cmpN x y = -1 := by unfold cmpN; rw [if_pos h]
theorem cmpN_gt {x y : Nat} (h : y < x) : cmpN x y = 1 := by unfold cmpN; rw [if_neg (by omega), if_pos h]
theorem cmpN_eq (x : Nat) : cmpN x x = 0 := by unfold cmpN; rw [if_neg (by omega), if_neg (by omega)]
theorem top_lt {B : Nat} {xs ys : List Nat} {k : Nat} (hB : 0 < B) (hx : ∀ d ∈ xs, d < B) (h1 : k < xs.length) (h2 : k < ys.length) (h : xs.getD k 0 < ys.getD k 0) : val B (xs.take (k + 1)) < val B (ys.take (k + 1)) := by
  rw [val_take B h1, val_take B h2]
  have := val_lt hB (xs.take k) (fun d hd => hx d (List.mem_of_mem_take hd))
  rw [List.length_take, Nat.min_eq_left (by omega)] at this
  have h3 := Nat.mul_le_mul_left (B ^ k) h
  rw [Nat.mul_succ] at h3
  omega
theorem cmp_top {B : Nat} {xs ys : List Nat} {k : Nat} (h1 : k < xs.length) (h2 : k < ys.length) (h : xs.getD k 0 = ys.getD k 0) : cmpN (val B (xs.take (k + 1))) (val B (ys.take (k + 1))) = cmpN (val B (xs.take k)) (val B (ys.take k)) := by
  rw [val_take B h1, val_take B h2, h]
  unfold cmpN
  simp only [Nat.add_lt_add_iff_right]
end Go.Proofs.YtogjodnmegafdaaGreatFmtBesafter

namespace Go.Proofs.YtogjodnmegafdaaGreatFmtBesafter
open Go.RowKit

theorem wrap_shl {x r : Nat} (hx : x < 4294967296) (hr : r < 32) : IntKind.u64.wrap ((x : Int) * 2 ^ r) = ((x * 2 ^ r : Nat) : Int) := by
  have h := (shl_bounds hx hr).1
  have e : (x : Int) * 2 ^ r = ((x * 2 ^ r : Nat) : Int) := by simp [Int.natCast_mul, Int.natCast_pow]
  rw [e, IntKind.wrap_u64]
  generalize x * 2 ^ r = q at *
  omega
theorem or_shl_low {z x r : Nat} (hx : x < 4294967296) (hr : r < 32) (hz : z < 2 ^ r) :
    bits .or .u32 (z : Int) (IntKind.u64.wrap ((x : Int) * 2 ^ r) % 4294967296) = ((z + x * 2 ^ r % 4294967296 : Nat) : Int) := by
  have h := shl_bounds hx hr
  rw [wrap_shl hx hr, show ((x * 2 ^ r : Nat) : Int) % 4294967296 = ((x * 2 ^ r % 4294967296 : Nat) : Int) from by omega, u32_or_nat _ _ (by omega) (Nat.mod_lt _ (by decide)), or_add_low hz (shl_low hr)]
theorem or_shl_high {x r : Nat} (hx : x < 4294967296) (hr : r < 32) :
    bits .or .u32 ((0 : Nat) : Int) (IntKind.u64.wrap ((x : Int) * 2 ^ r) / 4294967296 % 4294967296) = ((x * 2 ^ r / 4294967296 : Nat) : Int) := by
  have h := shl_bounds hx hr
  rw [wrap_shl hx hr, show ((x * 2 ^ r : Nat) : Int) / 4294967296 % 4294967296 = ((x * 2 ^ r / 4294967296 : Nat) : Int) from by omega, u32_or_nat _ _ (by omega) (by omega), Nat.zero_or]

theorem mRd_nil (w : World) (base : Nat) (A : Option Addr) (c : Nat) : mRd.R w base 0 [.slice A 0 c] := ⟨[], A, c, rfl, Nat.zero_le _, Rd.Row.nil _ _ _ _ _, .inl rfl, rfl⟩
theorem times_sum {c x y o : Nat} (hc : c < 4294967296) (hx : x < 4294967296) (hy : y < 4294967296) (ho : o < 4294967296) :
    IntKind.u64.wrap (IntKind.u64.wrap ((c : Int) + IntKind.u64.wrap ((x : Int) * (y : Int))) + (o : Int)) = ((c + x * y + o : Nat) : Int) ∧ (c + x * y + o) / 4294967296 < 4294967296 := by
  have h := times_bd hx hy
  rw [← Int.natCast_mul]
  generalize x * y = p at *
  rw [IntKind.wrap_u64, IntKind.wrap_u64, IntKind.wrap_u64]
  omega
end Go.Proofs.YtogjodnmegafdaaGreatFmtBesafter

namespace Go.Proofs.YtogjodnmegafdaaGreatFmtBesafter
open Go.RowKit

theorem or_word {w d : Nat} (hw : w < 4294967296) (hd : d < 4294967296) : bits .or .u64 ((w : Int) * 4294967296) (d : Int) = ((d + 4294967296 * w : Nat) : Int) := by
  have e : (w : Int) * 4294967296 = ((w * 4294967296 : Nat) : Int) := by omega
  rw [e, u64_or_nat _ _ (by omega) (by omega)]
  have := or_add_low (z := d) (y := w * 4294967296) (r := 32) hd (by omega)
  rw [Nat.or_comm, this, Nat.mul_comm]
theorem or_hi {h g : Nat} (hh : h < 4294967296) (hg : g < 4294967296) : bits .or .u64 (h : Int) ((g : Int) * 4294967296) = ((h + 4294967296 * g : Nat) : Int) := by
  have e : (g : Int) * 4294967296 = ((g * 4294967296 : Nat) : Int) := by omega
  rw [e, u64_or_nat _ _ (by omega) (by omega), or_add_low (z := h) (y := g * 4294967296) (r := 32) hh (by omega), Nat.mul_comm]
def restB (v : Nat) : Bool := decide (v ≠ 0)
theorem flag_lo {x r v : Nat} (hx : x < 4294967296) (hr : r < 32) (h : v = 0 ↔ x % 2 ^ r = 0) :
    (bits .and .u32 (x : Int) (((2 : Int) ^ r - 1) % 4294967296) != 0) = restB v := by
  have hb := (shl_bounds hx hr).2.2
  have e1 : (((2 : Int) ^ r - 1) % 4294967296) = ((2 ^ r - 1 : Nat) : Int) := by
    have e : (2 : Int) ^ r = ((2 ^ r : Nat) : Int) := by simp [Int.natCast_pow]
    have hp : 0 < 2 ^ r := Nat.pow_pos (n := r) (show 0 < 2 by decide)
    rw [e]
    generalize 2 ^ r = p at *
    omega
  rw [e1, u32_and_nat _ _ hx (by omega), Nat.and_two_pow_sub_one_eq_mod, Bool.eq_iff_iff]
  simp only [restB, decide_eq_true_eq, bne_iff_ne, ne_eq, h]
  omega
theorem shr_low (x r : Nat) : (x : Int) / 2 ^ r % 4294967296 = ((x / 2 ^ r % 4294967296 : Nat) : Int) := by
  have e : (2 : Int) ^ r = ((2 ^ r : Nat) : Int) := by simp [Int.natCast_pow]
  rw [e, ← Int.natCast_ediv]
  omega
end Go.Proofs.YtogjodnmegafdaaGreatFmtBesafter

namespace Go.Proofs.YtogjodnmegafdaaGreatFmtBesafter
open Go.RowKit

/-! ### exact reals in memory: X at the scale 2^-K -/
def sg (neg : Bool) (m : Nat) : Int := if neg then -(m : Int) else m
def numRd (K : Nat) : Rd Int where
  sz := 3
  E := [36]
  R w base X cs := ∃ (neg : Bool) (m : Nat) (e : Int) (v : Value), cs = [.bool neg, v, .int .i64 e] ∧ mRd.R w base m [v] ∧ (m ≠ 0 → 0 ≤ e + K) ∧ (-1099511627776 ≤ e ∧ e ≤ 1099511627776) ∧ X = sg neg (m * 2 ^ (e + K).toNat)
  len h := by obtain ⟨_, _, _, _, rfl, _⟩ := h; rfl
  one h u hu := by
    obtain ⟨_, _, _, _, rfl, h1, _⟩ := h
    simp at hu
    rcases hu with rfl | rfl | rfl
    · rfl
    · exact mRd.one h1 _ (by simp)
    · rfl
  keep h hk := by obtain ⟨n, m, e, v, rfl, h1, h2⟩ := h; exact ⟨n, m, e, v, rfl, mRd.keep h1 hk, h2⟩

/-! floats by their bits -/
def fexp (u : Nat) : Nat := u / 4503599627370496 % 2048
def fman (u : Nat) : Nat := if fexp u = 0 then u % 4503599627370496 else u % 4503599627370496 + 4503599627370496
def fneg (u : Nat) : Bool := decide (u / 9223372036854775808 = 1)
def fin (u : Nat) : Bool := decide (fexp u ≠ 2047)
/-- the value in parts of 2^-1074 -/
def fv (u : Nat) : Int := sg (fneg u) (fman u * 2 ^ (max (fexp u) 1 - 1))

theorem fexp_lt (u : Nat) : fexp u < 2048 := Nat.mod_lt _ (by decide)
theorem val_two (m : Nat) : val B32 [m % 4294967296, m / 4294967296] = m := by simp only [val, B32]; omega
theorem two_lt {m : Nat} (h : m < 18446744073709551616) : ∀ d ∈ [m % 4294967296, m / 4294967296], d < 4294967296 := by
  intro d hd; simp at hd; omega
theorem lits32 (W : World) (a b : Int) (x y t g : Nat) (hg : W.heap.size = g) (ha : a = x) (hb : b = y) : Blk (W.alloc (.cells #[.int .u32 a, .int .u32 b] t)) g t (i32s [x, y]) := by
  subst ha hb hg; exact Blk.new _ _ _
theorem bits_fexp {u : Nat} (hu : u < 18446744073709551616) : bits BinOp.and IntKind.u64 ((u : Int) / 4503599627370496) 2047 = (fexp u : Nat) := by
  rw [show (u : Int) / 4503599627370496 = ((u / 4503599627370496 : Nat) : Int) from by omega, show (2047 : Int) = ((2 ^ 11 - 1 : Nat) : Int) from by decide,
    u64_and_nat _ _ (by omega) (by decide), Nat.and_two_pow_sub_one_eq_mod]
  rfl
theorem bits_fman {u : Nat} (hu : u < 18446744073709551616) : bits BinOp.and IntKind.u64 (u : Int) 4503599627370495 = ((u % 4503599627370496 : Nat) : Int) := by
  rw [show (4503599627370495 : Int) = ((2 ^ 52 - 1 : Nat) : Int) from by decide, u64_and_nat _ _ hu (by decide), Nat.and_two_pow_sub_one_eq_mod]
theorem bits_hid {m : Nat} (hm : m < 4503599627370496) : bits BinOp.or IntKind.u64 (m : Int) 4503599627370496 = ((m + 4503599627370496 : Nat) : Int) := by
  rw [show (4503599627370496 : Int) = ((4503599627370496 : Nat) : Int) from rfl, u64_or_nat _ _ (by omega) (by decide), or_add_low (r := 52) hm (by decide)]
theorem sg_zero (neg : Bool) : sg neg 0 = 0 := by cases neg <;> rfl
/-! what does not reckon -/
theorem sg_sign (neg : Bool) (m k : Nat) : Int.sign (sg neg (m * 2 ^ k)) = if m = 0 then 0 else if neg then -1 else 1 := by
  have hp : 0 < 2 ^ k := Nat.pow_pos (by decide)
  split
  · rename_i h; subst h; rw [Nat.zero_mul, sg_zero]; rfl
  · have : 0 < m * 2 ^ k := Nat.mul_pos (by omega) hp
    generalize m * 2 ^ k = q at *
    cases neg
    · simp only [sg]; rw [if_neg (by decide), if_neg (by decide), Int.sign_eq_one_of_pos (by omega)]
    · simp only [sg, if_true]; rw [Int.sign_eq_neg_one_of_neg (by omega)]
/-- the same number at another scale -/
theorem moved_scale (neg : Bool) (m : Nat) (a b : Int) (h : m ≠ 0 → a = b) : sg neg (m * 2 ^ a.toNat) = sg neg (m * 2 ^ b.toNat) := by
  by_cases hm : m = 0
  · subst hm; simp only [Nat.zero_mul]
  · rw [h hm]
theorem numRd_up {K : Nat} {w : World} {base : Nat} {X : Int} {cs : List Value} (h : (numRd K).R w base X cs) (j : Nat) : (numRd (K + j)).R w base (X * 2 ^ j) cs := by
  obtain ⟨neg, m, e, v, rfl, hm, he, heb, rfl⟩ := h
  refine ⟨neg, m, e, v, rfl, hm, fun h0 => by have := he h0; omega, heb, ?_⟩
  by_cases h0 : m = 0
  · subst h0; simp only [Nat.zero_mul, sg_zero, Int.zero_mul]
  · have := he h0
    rw [show (e + (K + j : Nat)).toNat = (e + K).toNat + j from by omega, Nat.pow_add, ← Nat.mul_assoc]
    generalize m * 2 ^ (e + K).toNat = q
    cases neg <;> simp [sg, Int.natCast_mul, Int.natCast_pow, Int.neg_mul]
theorem sg_abs (neg : Bool) (q : Nat) : (sg neg q).natAbs = q := by cases neg <;> simp [sg]
theorem exp_lt {neg : Bool} {m L : Nat} {e : Int} {K : Nat} (h : m ≠ 0) (hX : (sg neg (m * 2 ^ (e + K).toNat)).natAbs < 2 ^ L) : (e + K).toNat < L := by
  rw [sg_abs] at hX
  have : 2 ^ (e + K).toNat ≤ m * 2 ^ (e + K).toNat := Nat.le_mul_of_pos_left _ (by omega)
  exact (Nat.pow_lt_pow_iff_right (show 1 < 2 by decide)).1 (Nat.lt_of_le_of_lt this hX)
theorem man_lt {neg : Bool} {m L k : Nat} (hX : (sg neg (m * 2 ^ k)).natAbs < 2 ^ L) : m < 2 ^ L := by
  rw [sg_abs] at hX
  exact Nat.lt_of_le_of_lt (Nat.le_mul_of_pos_right _ (Nat.pow_pos (by decide))) hX
theorem man_len {xs : List Nat} {m L : Nat} (ht : Trimmed xs) (hv : val B32 xs = m) (hm : m < 2 ^ L) : xs.length ≤ L / 32 + 1 := by
  refine len_le_of_val (B := B32) (by decide) ht (Nat.lt_of_lt_of_le (hv ▸ hm) ?_)
  rw [show B32 = 2 ^ 32 from rfl, ← Nat.pow_mul]
  exact Nat.pow_le_pow_right (by decide) (by omega)
end Go.Proofs.YtogjodnmegafdaaGreatFmtBesafter

namespace Go.Proofs.YtogjodnmegafdaaGreatFmtBesafter
open Go.RowKit

/-! ### two numbers brought to one power of 2 -/
/-- what 'level' hands back -/
def Levelled (w : World) (base K : Nat) (X Y : Int) (mx my : Nat) (nx ny : Bool) (va vb : Value) (e : Int) : Prop :=
  ∃ ma mb : Nat, mRd.R w base ma [va] ∧ mRd.R w base mb [vb] ∧ (ma = 0 ↔ mx = 0) ∧ (mb = 0 ↔ my = 0) ∧ (mx ≠ 0 → my ≠ 0 → 0 ≤ e + K ∧ e ≤ 1099511627776 ∧ X = sg nx (ma * 2 ^ (e + K).toNat) ∧ Y = sg ny (mb * 2 ^ (e + K).toNat))
end Go.Proofs.YtogjodnmegafdaaGreatFmtBesafter

namespace Go.Proofs.YtogjodnmegafdaaGreatFmtBesafter
open Go.RowKit

theorem mRd_setNT {w : World} {base b m : Nat} {cs : List Value} (h : mRd.R w base m cs) (hn : NT w 36 b) (hb : base ≤ b) (i : Nat) (u : Value) : mRd.R (w.setCell ⟨b, i, none⟩ u) base m cs :=
  mRd.keep h (Keeps.set_nt hn hb i u)
theorem sg_diffv {n : Bool} {a b k : Nat} {X Y : Int} (hX : X = sg n (a * 2 ^ k)) (hY : Y = sg (!n) (b * 2 ^ k)) : (b ≤ a → X + Y = sg n ((a - b) * 2 ^ k)) ∧ (a ≤ b → X + Y = sg (!n) ((b - a) * 2 ^ k)) := by
  subst hX hY
  constructor
  · intro h
    have := Nat.mul_le_mul_right (2 ^ k) h
    rw [Nat.sub_mul]
    generalize a * 2 ^ k = p at *
    generalize b * 2 ^ k = q at *
    cases n <;> simp [sg] <;> omega
  · intro h
    have := Nat.mul_le_mul_right (2 ^ k) h
    rw [Nat.sub_mul]
    generalize a * 2 ^ k = p at *
    generalize b * 2 ^ k = q at *
    cases n <;> simp [sg] <;> omega
theorem le_of_scaled {n n' : Bool} {a b k : Nat} {X Y : Int} (hX : X = sg n (a * 2 ^ k)) (hY : Y = sg n' (b * 2 ^ k)) : (X.natAbs ≤ Y.natAbs → a ≤ b) ∧ (X.natAbs < Y.natAbs → a < b) := by
  subst hX hY
  rw [sg_abs, sg_abs]
  have hp : 0 < 2 ^ k := Nat.pow_pos (by decide)
  exact ⟨fun h => Nat.le_of_mul_le_mul_right h hp, fun h => Nat.lt_of_mul_lt_mul_right h⟩
theorem sg_eq_zero {neg : Bool} {m k : Nat} (h : sg neg (m * 2 ^ k) = 0) : m = 0 := by
  have h1 := sg_abs neg (m * 2 ^ k)
  rw [h] at h1
  have := Nat.pow_pos (n := k) (show 0 < 2 by decide)
  rcases Nat.mul_eq_zero.1 h1.symm with h2 | h2
  · exact h2
  · omega
theorem sg_same {nx ny : Bool} {p q : Nat} {X Y : Int} (hX : X = sg nx p) (hY : Y = sg ny q) (h1 : X ≠ 0) (h2 : Y ≠ 0) (h : (0 ≤ X ∧ 0 ≤ Y) ∨ (X ≤ 0 ∧ Y ≤ 0)) : nx = ny := by
  subst hX hY
  cases nx <;> cases ny <;> simp [sg] at * <;> omega
theorem sg_diff {nx ny : Bool} {p q : Nat} {X Y : Int} (hX : X = sg nx p) (hY : Y = sg ny q) (h : (0 < X ∧ Y < 0) ∨ (X < 0 ∧ 0 < Y)) : ny = !nx ∧ (nx == ny) = false := by
  subst hX hY
  cases nx <;> cases ny <;> simp [sg] at * <;> omega
theorem sg_plus {n : Bool} {a b k : Nat} {X Y : Int} (hX : X = sg n (a * 2 ^ k)) (hY : Y = sg n (b * 2 ^ k)) : X + Y = sg n ((a + b) * 2 ^ k) := by
  subst hX hY
  rw [Nat.add_mul]
  cases n <;> simp [sg] <;> omega
end Go.Proofs.YtogjodnmegafdaaGreatFmtBesafter

namespace Go.Proofs.YtogjodnmegafdaaGreatFmtBesafter
open Go.RowKit

theorem numRd_setNT {K : Nat} {w : World} {base b : Nat} {X : Int} {cs : List Value} (h : (numRd K).R w base X cs) (hn : NT w 36 b) (hb : base ≤ b) (i : Nat) (u : Value) : (numRd K).R (w.setCell ⟨b, i, none⟩ u) base X cs :=
  (numRd K).keep h (Keeps.set_nt hn hb i u)
theorem sg_mul (nx ny : Bool) (a b j k : Nat) : sg nx (a * 2 ^ j) * sg ny (b * 2 ^ k) = sg (nx != ny) (a * b * 2 ^ (j + k)) := by
  have e : a * b * 2 ^ (j + k) = a * 2 ^ j * (b * 2 ^ k) := by rw [Nat.pow_add]; simp only [Nat.mul_assoc, Nat.mul_left_comm, Nat.mul_comm]
  rw [e]
  generalize a * 2 ^ j = p
  generalize b * 2 ^ k = q
  cases nx <;> cases ny <;> simp [sg, Int.neg_mul, Int.mul_neg]
end Go.Proofs.YtogjodnmegafdaaGreatFmtBesafter


namespace Go.Proofs.YtogjodnmegafdaaGreatFmtBesafter
open Go.RowKit

/-! ### rounding: the last step -/
theorem bits_lsb {h : Nat} (hh : h < 18446744073709551616) : bits .and .u64 (h : Int) 1 = ((h % 2 : Nat) : Int) := by
  rw [show (1 : Int) = ((2 ^ 1 - 1 : Nat) : Int) from by decide, u64_and_nat _ _ hh (by decide), Nat.and_two_pow_sub_one_eq_mod]
theorem bits_pack {e : Int} {q : Nat} (h0 : 0 ≤ e) (h1 : e < 2048) (hq : q < 4503599627370496) : bits .or .u64 (e * 4503599627370496) (q : Int) = ((e.toNat * 4503599627370496 + q : Nat) : Int) := by
  obtain ⟨n, rfl⟩ := Int.eq_ofNat_of_zero_le h0
  have e1 : (n : Int) * 4503599627370496 = ((n * 4503599627370496 : Nat) : Int) := by omega
  rw [e1, u64_or_nat _ _ (by omega) (by omega)]
  have := or_add_low (z := q) (y := n * 4503599627370496) (r := 52) hq (by omega)
  rw [Nat.or_comm, this]; simp [Nat.add_comm]
theorem bits_top {p : Nat} (hp : p < 9223372036854775808) : bits .or .u64 (p : Int) 9223372036854775808 = ((p + 9223372036854775808 : Nat) : Int) := by
  rw [show (9223372036854775808 : Int) = ((9223372036854775808 : Nat) : Int) from rfl, u64_or_nat _ _ (by omega) (by omega), or_add_low (r := 63) hp (by omega)]
theorem bits_fmask {q : Nat} (h1 : 4503599627370496 ≤ q) (h2 : q < 9007199254740992) : bits .and .u64 (q : Int) 4503599627370495 = ((q - 4503599627370496 : Nat) : Int) := by
  have e : q % 4503599627370496 = q - 4503599627370496 := by omega
  rw [bits_fman (by omega), e]
/-- a number's bits: q parts of 2^e -/
def sgnB (neg : Bool) : Nat := if neg then 9223372036854775808 else 0
def packB (neg : Bool) (q : Nat) (e : Int) : Nat :=
  if 4503599627370496 ≤ q then (e + 1075).toNat * 4503599627370496 + (q - 4503599627370496) + sgnB neg else if 0 < q then q + sgnB neg else 0
def finD (neg : Bool) (q : Nat) (e : Int) : Option Nat := if 971 < e then (if neg then none else some 9218868437227405311) else some (packB neg q e)
def downEnd (neg : Bool) (q : Nat) (e : Int) : Option Nat := if q = 9007199254740992 then finD neg 4503599627370496 (e + 1) else finD neg q e
def optRet (o : Option Nat) : Ending := .returned (.tuple #[.int .u64 (o.getD 0 : Nat), .bool o.isSome])
theorem ret_opt {a : Int} {o : Option Nat} {x : Nat} (h : o = some x) (ha : a = x) : Ending.returned (.tuple #[.int .u64 a, .bool true]) = optRet o := by subst h ha; rfl
theorem ret_none {o : Option Nat} (h : o = none) : Ending.returned (.tuple #[.int .u64 0, .bool false]) = optRet o := by subst h; rfl
theorem finD_big {neg : Bool} {q : Nat} {e : Int} (he : 971 < e) : finD neg q e = if neg then none else some 9218868437227405311 := by unfold finD; rw [if_pos he]
theorem finD_norm {neg : Bool} {q : Nat} {e : Int} (he : ¬ 971 < e) (hq : 4503599627370496 ≤ q) : finD neg q e = some (((e + 1075).toNat * 4503599627370496 + (q - 4503599627370496)) + sgnB neg) := by
  unfold finD packB; rw [if_neg he, if_pos hq]
theorem finD_sub {neg : Bool} {q : Nat} {e : Int} (he : ¬ 971 < e) (hq : q < 4503599627370496) (h0 : 0 < q) : finD neg q e = some (q + sgnB neg) := by
  unfold finD packB; rw [if_neg he, if_neg (by omega), if_pos h0]
theorem finD_zero {neg : Bool} {e : Int} (he : ¬ 971 < e) : finD neg 0 e = some 0 := by
  unfold finD packB; rw [if_neg he, if_neg (by omega), if_neg (by omega)]
theorem bits_top' {p : Int} {q : Nat} (hp : q < 9223372036854775808) (h : p = q) : bits .or .u64 p 9223372036854775808 = ((q + sgnB true : Nat) : Int) := by
  subst h; exact bits_top hp

/-- how many at the end, rounded down -/
def moreD (neg rest : Bool) (h : Nat) : Nat := if neg && (decide (h % 2 = 1) || rest) then 1 else 0
end Go.Proofs.YtogjodnmegafdaaGreatFmtBesafter

namespace Go.Proofs.YtogjodnmegafdaaGreatFmtBesafter
open Go.RowKit

/-! rounding down, of X parts of 2^-K -/
def shD (K n : Nat) : Nat := max (bl n - 53) (K - 1074)
def rdown (K : Nat) (X : Int) : Option Nat :=
  if X = 0 then some 0
  else downEnd (decide (X < 0)) (X.natAbs / 2 ^ shD K X.natAbs + (if decide (X < 0) && decide (X.natAbs % 2 ^ shD K X.natAbs ≠ 0) then 1 else 0)) ((shD K X.natAbs : Int) - K)
theorem rdown_spec {K m k0 : Nat} {neg : Bool} (hm : m ≠ 0) (hK : 1074 < K) {h : Nat} {rest : Bool} {k : Nat} (hk : k = shD K (m * 2 ^ k0)) (hh : h = m * 2 ^ k0 / 2 ^ (k - 1)) (hr : rest = restB (m * 2 ^ k0 % 2 ^ (k - 1))) :
    rdown K (sg neg (m * 2 ^ k0)) = downEnd neg (h / 2 + moreD neg rest h) ((k : Int) - K) ∧ h < 18014398509481984 := by
  have hn : 0 < m * 2 ^ k0 := Nat.mul_pos (by omega) (Nat.pow_pos (by decide))
  generalize m * 2 ^ k0 = n at *
  have h0 : sg neg n ≠ 0 := by cases neg <;> simp [sg] <;> omega
  have h1 : decide (sg neg n < 0) = neg := by cases neg <;> simp [sg] <;> omega
  have h2 : (sg neg n).natAbs = n := sg_abs _ _
  have hk1 : 1 ≤ k := by rw [hk]; unfold shD; omega
  have e2 : 2 ^ k = 2 ^ (k - 1) * 2 := by rw [← Nat.pow_succ]; congr 1; omega
  have e3 : n / 2 ^ k = h / 2 := by rw [e2, ← Nat.div_div_eq_div_mul, hh]
  have e4 : n % 2 ^ k = n % 2 ^ (k - 1) + 2 ^ (k - 1) * (h % 2) := by rw [e2, Nat.mod_mul, hh]
  have hp : 0 < 2 ^ (k - 1) := Nat.pow_pos (by decide)
  refine ⟨?_, ?_⟩
  · unfold rdown
    rw [if_neg h0, h1, h2, ← hk, e3]
    congr 1
    congr 1
    unfold moreD restB at *
    rw [hr]
    have : decide (n % 2 ^ k ≠ 0) = (decide (h % 2 = 1) || decide (n % 2 ^ (k - 1) ≠ 0)) := by
      rw [Bool.eq_iff_iff]
      simp only [decide_eq_true_eq, Bool.or_eq_true]
      rw [e4]
      rcases Nat.mod_two_eq_zero_or_one h with hq | hq
      · rw [hq]; simp
      · rw [hq]; simp
    rw [this]
  · have hb : bl n ≤ k + 53 := by rw [hk]; unfold shD; omega
    have hl := bl_lt n
    have : 2 ^ bl n ≤ 2 ^ (k - 1) * 18014398509481984 := by
      rw [show (18014398509481984 : Nat) = 2 ^ 54 from by decide, ← Nat.pow_add]
      exact Nat.pow_le_pow_right (by decide) (by omega)
    rw [hh, Nat.div_lt_iff_lt_mul hp, Nat.mul_comm]
    omega

end Go.Proofs.YtogjodnmegafdaaGreatFmtBesafter
