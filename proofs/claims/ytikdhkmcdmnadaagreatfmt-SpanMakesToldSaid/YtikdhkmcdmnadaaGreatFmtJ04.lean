/- Walks and plain laws of this seat's functions, part 4: R2d R2e. -/
import Derived.Test.YtikdhkmcdmnadaaGreatFmtJ03
set_option linter.unusedVariables false
set_option linter.unusedSimpArgs false
namespace Go.Proofs.YtikdhkmcdmnadaaGreatFmt
open Go.RowKit

/-! ### exact reals in memory: X at the scale 2^-K -/
def sg (neg : Bool) (m : Nat) : Int := if neg then -(m : Int) else m
def numRd (K : Nat) : Rd Int where
  sz := 3
  E := [58]
  R w base X cs := ∃ (neg : Bool) (m : Nat) (e : Int) (v : Value), cs = [.bool neg, v, .int .i64 e] ∧ mRd.R w base m [v] ∧ (m ≠ 0 → 0 ≤ e + K) ∧ (-1099511627776 ≤ e ∧ e ≤ 1099511627776) ∧ X = sg neg (m * 2 ^ (e + K).toNat)
  len h := by obtain ⟨_, _, _, _, rfl, _⟩ := h; rfl
  one h u hu := by
    obtain ⟨_, _, _, _, rfl, h1, _⟩ := h
    simp at hu
    rcases hu with rfl | rfl | rfl
    · rfl
    · exact mRd.one h1 _ (by simp)
    · rfl
  keep h hk := by obtain ⟨n, m, e, v, rfl, h1, h2⟩ := h; exact ⟨n, m, e, v, rfl, mRd.keep h1 hk, h2⟩

/-! floats by their bits -/
def fexp (u : Nat) : Nat := u / 4503599627370496 % 2048
def fman (u : Nat) : Nat := if fexp u = 0 then u % 4503599627370496 else u % 4503599627370496 + 4503599627370496
def fneg (u : Nat) : Bool := decide (u / 9223372036854775808 = 1)
def fin (u : Nat) : Bool := decide (fexp u ≠ 2047)
/-- the value in parts of 2^-1074 -/
def fv (u : Nat) : Int := sg (fneg u) (fman u * 2 ^ (max (fexp u) 1 - 1))

theorem fexp_lt (u : Nat) : fexp u < 2048 := Nat.mod_lt _ (by decide)
theorem val_two (m : Nat) : val B32 [m % 4294967296, m / 4294967296] = m := by simp only [val, B32]; omega
theorem two_lt {m : Nat} (h : m < 18446744073709551616) : ∀ d ∈ [m % 4294967296, m / 4294967296], d < 4294967296 := by
  intro d hd; simp at hd; omega
theorem lits32 (W : World) (a b : Int) (x y t g : Nat) (hg : W.heap.size = g) (ha : a = x) (hb : b = y) : Blk (W.alloc (.cells #[.int .u32 a, .int .u32 b] t)) g t (i32s [x, y]) := by
  subst ha hb hg; exact Blk.new _ _ _
theorem bits_fexp {u : Nat} (hu : u < 18446744073709551616) : bits BinOp.and IntKind.u64 ((u : Int) / 4503599627370496) 2047 = (fexp u : Nat) := by
  rw [show (u : Int) / 4503599627370496 = ((u / 4503599627370496 : Nat) : Int) from by omega, show (2047 : Int) = ((2 ^ 11 - 1 : Nat) : Int) from by decide,
    u64_and_nat _ _ (by omega) (by decide), Nat.and_two_pow_sub_one_eq_mod]
  rfl
theorem bits_fman {u : Nat} (hu : u < 18446744073709551616) : bits BinOp.and IntKind.u64 (u : Int) 4503599627370495 = ((u % 4503599627370496 : Nat) : Int) := by
  rw [show (4503599627370495 : Int) = ((2 ^ 52 - 1 : Nat) : Int) from by decide, u64_and_nat _ _ hu (by decide), Nat.and_two_pow_sub_one_eq_mod]
theorem bits_hid {m : Nat} (hm : m < 4503599627370496) : bits BinOp.or IntKind.u64 (m : Int) 4503599627370496 = ((m + 4503599627370496 : Nat) : Int) := by
  rw [show (4503599627370496 : Int) = ((4503599627370496 : Nat) : Int) from rfl, u64_or_nat _ _ (by omega) (by decide), or_add_low (r := 52) hm (by decide)]
set_option maxHeartbeats 400000 in
set_option maxRecDepth 100000 in
theorem of_bad (u : Nat) (w : World) (hu : u < 18446744073709551616) (hf : fexp u = 2047) :
    Calls Tryz.prog 22 #[.int .u64 u] w fun e w' => e = .returned (.tuple #[.agg #[.bool false, .slice none 0 0, .int .i64 0], .bool false]) ∧ Below w.heap.size w w' := by
  have hb1 := bits_fexp hu
  rw [hf] at hb1
  clear hf
  go_enter Tryz.func22, Tryz.ntmps22
  go_wp2
  exact bodyPost_ret (v := .tuple #[.agg #[.bool false, .slice none 0 0, .int .i64 0], .bool false]) (by simp [results, Tryz.results22, go_sem]) rfl ⟨rfl, below_new (Below.refl _ _) _⟩
set_option maxHeartbeats 1000000 in
set_option maxRecDepth 100000 in
theorem of_nought (u : Nat) (w : World) (hu : u < 18446744073709551616) (hf : fexp u = 0) (hm : u % 4503599627370496 = 0) :
    Calls Tryz.prog 22 #[.int .u64 u] w fun e w' => e = .returned (.tuple #[.agg #[.bool false, .slice none 0 0, .int .i64 0], .bool true]) ∧ Below w.heap.size w w' := by
  have hb1 := bits_fexp hu
  have hb2 := bits_fman hu
  rw [hf] at hb1
  rw [hm] at hb2
  clear hf hm
  go_enter Tryz.func22, Tryz.ntmps22
  go_wp2
  exact bodyPost_ret (v := .tuple #[.agg #[.bool false, .slice none 0 0, .int .i64 0], .bool true]) (by simp [results, Tryz.results22, go_sem]) rfl ⟨rfl, below_new (Below.refl _ _) _⟩
set_option maxHeartbeats 1000000 in
set_option maxRecDepth 100000 in
theorem of_norm (u base : Nat) (w : World) (hu : u < 18446744073709551616) (hf : fexp u ≠ 2047) (hf0 : fexp u ≠ 0) :
    Calls Tryz.prog 22 #[.int .u64 u] w fun e w' => ∃ v, e = .returned (.tuple #[.agg #[.bool (fneg u), v, .int .i64 ((fexp u : Nat) - 1075)], .bool true]) ∧ mRd.R w' base (u % 4503599627370496 + 4503599627370496) [v] ∧ Below w.heap.size w w' := by
  have hb1 := bits_fexp hu
  have hb2 := bits_fman hu
  have hm := Nat.mod_lt u (show 0 < 4503599627370496 by decide)
  have he := fexp_lt u
  have HN : Hid (fneg u = decide ((u : Int) / 9223372036854775808 = 1)) := by simp only [Hid, fneg]; congr 1; simp; omega
  generalize fexp u = x at *
  generalize u % 4503599627370496 = m at *
  have hb3 := bits_hid hm
  simp only [Int.natCast_add, Int.cast_ofNat_Int] at hb3
  go_enter Tryz.func22, Tryz.ntmps22
  go_wp2_with fail
  have hZ := Lib.hid (lits32 (w.alloc (Obj.cells #[Value.bool false, Value.slice none 0 0, Value.int IntKind.i64 0] 38)) (((m : Int) + 4503599627370496) % 4294967296) (((m : Int) + 4503599627370496) / 4294967296) ((m + 4503599627370496) % 4294967296) ((m + 4503599627370496) / 4294967296) 58 (w.heap.size + 1) (by simp) (by omega) (by omega))
  have hl2 := two_lt (m := m + 4503599627370496) (by omega)
  refine (trim_calls _ _ _ 58 0 [(m + 4503599627370496) % 4294967296, (m + 4503599627370496) / 4294967296] _ rfl (u32all hZ.out hl2) (by simp) (Nat.le_refl _)).mono ?_
  rintro e w' ⟨rfl, rfl⟩
  clear hZ
  go_wp2
  refine bodyPost_ret (v := .tuple #[.agg #[.bool ((u : Int) / 9223372036854775808 == 1), .slice (some ⟨w.heap.size + 1, 0, none⟩) (trimLen [(m + 4503599627370496) % 4294967296, (m + 4503599627370496) / 4294967296] 2) 2, .int .i64 ((x : Int) - 1075)], .bool true]) (by simp [results, Tryz.results22, go_sem]) rfl ⟨_, by rw [HN.out]; rfl, mRd_trim (lits32 _ _ _ _ _ _ _ (by simp) (by omega) (by omega)) hl2 rfl (Nat.le_refl _) (val_two _), below_new (below_new (Below.refl _ _) _) _⟩
set_option maxHeartbeats 1000000 in
set_option maxRecDepth 100000 in
theorem of_sub (u base : Nat) (w : World) (hu : u < 18446744073709551616) (hf : fexp u = 0) (hf0 : u % 4503599627370496 ≠ 0) :
    Calls Tryz.prog 22 #[.int .u64 u] w fun e w' => ∃ v, e = .returned (.tuple #[.agg #[.bool (fneg u), v, .int .i64 (-1074)], .bool true]) ∧ mRd.R w' base (u % 4503599627370496) [v] ∧ Below w.heap.size w w' := by
  have hb1 := bits_fexp hu
  have hb2 := bits_fman hu
  have hm := Nat.mod_lt u (show 0 < 4503599627370496 by decide)
  rw [hf] at hb1
  have HN : Hid (fneg u = decide ((u : Int) / 9223372036854775808 = 1)) := by simp only [Hid, fneg]; congr 1; simp; omega
  clear hf
  generalize u % 4503599627370496 = m at *
  have h0 : ((m : Int) == 0) = false := by simpa using hf0
  have HM := Lib.hid hf0
  clear hf0
  go_enter Tryz.func22, Tryz.ntmps22
  go_wp2_with fail
  have hZ := Lib.hid (lits32 (w.alloc (Obj.cells #[Value.bool false, Value.slice none 0 0, Value.int IntKind.i64 0] 38)) ((m : Int) % 4294967296) ((m : Int) / 4294967296) (m % 4294967296) (m / 4294967296) 58 (w.heap.size + 1) (by simp) (by omega) (by omega))
  have hl2 := two_lt (m := m) (by omega)
  refine (trim_calls _ _ _ 58 0 [m % 4294967296, m / 4294967296] _ rfl (u32all hZ.out hl2) (by simp) (Nat.le_refl _)).mono ?_
  rintro e w' ⟨rfl, rfl⟩
  clear hZ
  go_wp2
  refine bodyPost_ret (v := .tuple #[.agg #[.bool ((u : Int) / 9223372036854775808 == 1), .slice (some ⟨w.heap.size + 1, 0, none⟩) (trimLen [m % 4294967296, m / 4294967296] 2) 2, .int .i64 (-1074)], .bool true]) (by simp [results, Tryz.results22, go_sem]) rfl ⟨_, by rw [HN.out]; rfl, mRd_trim (lits32 _ _ _ _ _ _ _ (by simp) (by omega) (by omega)) hl2 rfl (Nat.le_refl _) (val_two _), below_new (below_new (Below.refl _ _) _) _⟩

theorem sg_zero (neg : Bool) : sg neg 0 = 0 := by cases neg <;> rfl
/-- what a number's bits tell -/
theorem of_fin (u base : Nat) (w : World) (hu : u < 18446744073709551616) (hf : fin u = true) :
    Calls Tryz.prog 22 #[.int .u64 u] w fun e w' => ∃ cs, e = .returned (.tuple #[.agg cs.toArray, .bool true]) ∧ (numRd 1074).R w' base (fv u) cs ∧ Below w.heap.size w w' := by
  have hf' : fexp u ≠ 2047 := by simpa [fin] using hf
  have hlt := fexp_lt u
  by_cases h0 : fexp u = 0
  · by_cases hm : u % 4503599627370496 = 0
    · refine (of_nought u w hu h0 hm).mono ?_
      rintro e w' ⟨rfl, hb⟩
      refine ⟨[.bool false, .slice none 0 0, .int .i64 0], rfl, ⟨false, 0, 0, _, rfl, mRd_nil _ _ _ _, fun h => absurd rfl h, by omega, ?_⟩, hb⟩
      unfold fv fman; rw [if_pos h0, hm, Nat.zero_mul, Nat.zero_mul, sg_zero, sg_zero]
    · refine (of_sub u base w hu h0 hm).mono ?_
      rintro e w' ⟨v, rfl, hv, hb⟩
      refine ⟨[.bool (fneg u), v, .int .i64 (-1074)], rfl, ⟨_, _, _, _, rfl, hv, fun _ => by omega, by omega, ?_⟩, hb⟩
      unfold fv fman; rw [if_pos h0, h0]; rfl
  · refine (of_norm u base w hu hf' h0).mono ?_
    rintro e w' ⟨v, rfl, hv, hb⟩
    refine ⟨[.bool (fneg u), v, .int .i64 ((fexp u : Nat) - 1075)], rfl, ⟨_, _, _, _, rfl, hv, fun _ => by omega, by omega, ?_⟩, hb⟩
    simp only [fv, fman, h0, if_false]
    rw [show ((fexp u : Int) - 1075 + (1074 : Nat)).toNat = max (fexp u) 1 - 1 from by omega]

/-! what does not reckon -/
theorem sg_sign (neg : Bool) (m k : Nat) : Int.sign (sg neg (m * 2 ^ k)) = if m = 0 then 0 else if neg then -1 else 1 := by
  have hp : 0 < 2 ^ k := Nat.pow_pos (by decide)
  split
  · rename_i h; subst h; rw [Nat.zero_mul, sg_zero]; rfl
  · have : 0 < m * 2 ^ k := Nat.mul_pos (by omega) hp
    generalize m * 2 ^ k = q at *
    cases neg
    · simp only [sg]; rw [if_neg (by decide), if_neg (by decide), Int.sign_eq_one_of_pos (by omega)]
    · simp only [sg, if_true]; rw [Int.sign_eq_neg_one_of_neg (by omega)]
set_option maxHeartbeats 400000 in
theorem sign_calls (K base : Nat) (X : Int) (cs : List Value) (w : World) (h : (numRd K).R w base X cs) :
    Calls Tryz.prog 33 #[.agg cs.toArray] w fun e w' => e = .returned (.int .i64 (Int.sign X)) ∧ Below w.heap.size w w' := by
  obtain ⟨neg, m, e, v, rfl, ⟨xs, A, c, hv, hc, hr, ht, hval⟩, he, heb, rfl⟩ := h
  cases hv
  rw [sg_sign]
  have hz := ht.nil_iff (B := B32) (by decide)
  rw [hval] at hz
  by_cases hm : m = 0
  · rw [if_pos hm]
    have h0 : ((xs.length : Int) == 0) = true := by simp; exact List.length_eq_zero_iff.1 (hz.2 hm)
    clear hz hval ht hr hm he
    go_enter Tryz.func33, Tryz.ntmps33
    go_wp2
    go_ret
    exact ⟨rfl, below_new (Below.refl _ _) _⟩
  · rw [if_neg hm]
    have h0 : ((xs.length : Int) == 0) = false := by simp; exact fun h => hm (hz.1 (by rw [h]; rfl))
    clear hz hval ht hr hm he
    cases neg
    all_goals
      go_enter Tryz.func33, Tryz.ntmps33
      go_wp2
      go_ret
      exact ⟨rfl, below_new (Below.refl _ _) _⟩
set_option maxHeartbeats 400000 in
theorem size_calls (K base : Nat) (X : Int) (cs : List Value) (w : World) (h : (numRd K).R w base X cs) :
    Calls Tryz.prog 37 #[.agg cs.toArray] w fun e w' => ∃ cs', e = .returned (.agg cs'.toArray) ∧ (numRd K).R w' base (X.natAbs : Int) cs' ∧ Below w.heap.size w w' := by
  obtain ⟨neg, m, e, v, rfl, hm, he, heb, rfl⟩ := h
  have hX : ((sg neg (m * 2 ^ (e + K).toNat)).natAbs : Int) = sg false (m * 2 ^ (e + K).toNat) := by
    generalize m * 2 ^ (e + K).toNat = q
    cases neg <;> simp [sg]
  rw [hX]
  have HM := Lib.hid hm
  have HE := Lib.hid he
  clear he hX
  obtain ⟨xs, A, c, hv, _, _⟩ := hm
  cases hv
  go_enter Tryz.func37, Tryz.ntmps37
  go_wp2
  have hb : ∀ o o', Below w.heap.size w ((w.alloc o).alloc o') := fun o o' => below_new (below_new (Below.refl _ _) _) _
  exact bodyPost_ret (v := .agg #[.bool false, .slice A xs.length c, .int .i64 e]) (by simp [results, Tryz.results37, go_sem]) rfl ⟨[.bool false, .slice A xs.length c, .int .i64 e], rfl, ⟨false, m, e, _, rfl, mRd.below HM.out (hb _ _), HE.out, heb, rfl⟩, hb _ _⟩
set_option maxHeartbeats 400000 in
theorem turned_calls (K base : Nat) (X : Int) (cs : List Value) (w : World) (h : (numRd K).R w base X cs) :
    Calls Tryz.prog 53 #[.agg cs.toArray] w fun e w' => ∃ cs', e = .returned (.agg cs'.toArray) ∧ (numRd K).R w' base (-X) cs' ∧ Below w.heap.size w w' := by
  obtain ⟨neg, m, e, v, rfl, hm, he, heb, rfl⟩ := h
  have hX : -(sg neg (m * 2 ^ (e + K).toNat)) = sg (!neg) (m * 2 ^ (e + K).toNat) := by
    generalize m * 2 ^ (e + K).toNat = q
    cases neg <;> simp [sg]
  rw [hX]
  have HM := Lib.hid hm
  have HE := Lib.hid he
  have hb : ∀ o o', Below w.heap.size w ((w.alloc o).alloc o') := fun o o' => below_new (below_new (Below.refl _ _) _) _
  obtain ⟨xs, A, c, hv, hc, hr, ht, hval⟩ := hm
  cases hv
  have hz := ht.nil_iff (B := B32) (by decide)
  rw [hval] at hz
  clear he hX hr ht hval
  by_cases h0 : 0 < xs.length
  · clear hz
    go_enter Tryz.func53, Tryz.ntmps53
    go_wp2
    exact bodyPost_ret (v := .agg #[.bool (!neg), .slice A xs.length c, .int .i64 e]) (by simp [results, Tryz.results53, go_sem]) rfl ⟨[.bool (!neg), .slice A xs.length c, .int .i64 e], rfl, ⟨!neg, m, e, _, rfl, mRd.below HM.out (hb _ _), HE.out, heb, rfl⟩, hb _ _⟩
  · have h1 : m = 0 := hz.1 (by omega)
    subst h1
    clear hz
    simp only [Nat.zero_mul, sg_zero]
    go_enter Tryz.func53, Tryz.ntmps53
    go_wp2
    exact bodyPost_ret (v := .agg #[.bool neg, .slice A xs.length c, .int .i64 e]) (by simp [results, Tryz.results53, go_sem]) rfl ⟨[.bool neg, .slice A xs.length c, .int .i64 e], rfl, ⟨neg, 0, e, _, rfl, mRd.below HM.out (hb _ _), HE.out, heb, by rw [Nat.zero_mul, sg_zero]⟩, hb _ _⟩
/-- the same number at another scale -/
theorem moved_scale (neg : Bool) (m : Nat) (a b : Int) (h : m ≠ 0 → a = b) : sg neg (m * 2 ^ a.toNat) = sg neg (m * 2 ^ b.toNat) := by
  by_cases hm : m = 0
  · subst hm; simp only [Nat.zero_mul]
  · rw [h hm]
theorem numRd_up {K : Nat} {w : World} {base : Nat} {X : Int} {cs : List Value} (h : (numRd K).R w base X cs) (j : Nat) : (numRd (K + j)).R w base (X * 2 ^ j) cs := by
  obtain ⟨neg, m, e, v, rfl, hm, he, heb, rfl⟩ := h
  refine ⟨neg, m, e, v, rfl, hm, fun h0 => by have := he h0; omega, heb, ?_⟩
  by_cases h0 : m = 0
  · subst h0; simp only [Nat.zero_mul, sg_zero, Int.zero_mul]
  · have := he h0
    rw [show (e + (K + j : Nat)).toNat = (e + K).toNat + j from by omega, Nat.pow_add, ← Nat.mul_assoc]
    generalize m * 2 ^ (e + K).toNat = q
    cases neg <;> simp [sg, Int.natCast_mul, Int.natCast_pow, Int.neg_mul]
theorem sg_abs (neg : Bool) (q : Nat) : (sg neg q).natAbs = q := by cases neg <;> simp [sg]
theorem exp_lt {neg : Bool} {m L : Nat} {e : Int} {K : Nat} (h : m ≠ 0) (hX : (sg neg (m * 2 ^ (e + K).toNat)).natAbs < 2 ^ L) : (e + K).toNat < L := by
  rw [sg_abs] at hX
  have : 2 ^ (e + K).toNat ≤ m * 2 ^ (e + K).toNat := Nat.le_mul_of_pos_left _ (by omega)
  exact (Nat.pow_lt_pow_iff_right (show 1 < 2 by decide)).1 (Nat.lt_of_le_of_lt this hX)
theorem man_lt {neg : Bool} {m L k : Nat} (hX : (sg neg (m * 2 ^ k)).natAbs < 2 ^ L) : m < 2 ^ L := by
  rw [sg_abs] at hX
  exact Nat.lt_of_le_of_lt (Nat.le_mul_of_pos_right _ (Nat.pow_pos (by decide))) hX
theorem man_len {xs : List Nat} {m L : Nat} (ht : Trimmed xs) (hv : val B32 xs = m) (hm : m < 2 ^ L) : xs.length ≤ L / 32 + 1 := by
  refine len_le_of_val (B := B32) (by decide) ht (Nat.lt_of_lt_of_le (hv ▸ hm) ?_)
  rw [show B32 = 2 ^ 32 from rfl, ← Nat.pow_mul]
  exact Nat.pow_le_pow_right (by decide) (by omega)
end Go.Proofs.YtikdhkmcdmnadaaGreatFmt

namespace Go.Proofs.YtikdhkmcdmnadaaGreatFmt
open Go.RowKit

/-! ### two numbers brought to one power of 2 -/
/-- what 'level' hands back -/
def Levelled (w : World) (base K : Nat) (X Y : Int) (mx my : Nat) (nx ny : Bool) (va vb : Value) (e : Int) : Prop :=
  ∃ ma mb : Nat, mRd.R w base ma [va] ∧ mRd.R w base mb [vb] ∧ (ma = 0 ↔ mx = 0) ∧ (mb = 0 ↔ my = 0) ∧ (mx ≠ 0 → my ≠ 0 → 0 ≤ e + K ∧ e ≤ 1099511627776 ∧ X = sg nx (ma * 2 ^ (e + K).toNat) ∧ Y = sg ny (mb * 2 ^ (e + K).toNat))
set_option maxHeartbeats 1000000 in
theorem level_calls (K base L : Nat) (ex ey : Int) (mx my : Nat) (nx ny : Bool) (vx vy : Value) (w : World) (hx : mRd.R w base mx [vx]) (hy : mRd.R w base my [vy])
    (hex : mx ≠ 0 → 0 ≤ ex + K) (hey : my ≠ 0 → 0 ≤ ey + K) (hbx : -1099511627776 ≤ ex ∧ ex ≤ 1099511627776) (hby : -1099511627776 ≤ ey ∧ ey ≤ 1099511627776)
    (hX : (sg nx (mx * 2 ^ (ex + K).toNat)).natAbs < 2 ^ L) (hY : (sg ny (my * 2 ^ (ey + K).toNat)).natAbs < 2 ^ L) (hL : L ≤ 1073741824) :
    Calls Tryz.prog 72 #[.agg #[.bool nx, vx, .int .i64 ex], .agg #[.bool ny, vy, .int .i64 ey]] w fun r w' =>
      ∃ va vb e, r = .returned (.tuple #[va, vb, .int .i64 e]) ∧ Levelled w' base K (sg nx (mx * 2 ^ (ex + K).toNat)) (sg ny (my * 2 ^ (ey + K).toNat)) mx my nx ny va vb e ∧ Below w.heap.size w w' := by
  have HX := Lib.hid hx
  have HY := Lib.hid hy
  obtain ⟨xs, A, ca, hv, hca, hxr, hxt, hxv⟩ := hx
  obtain ⟨ys, B, cb, hv', hcb, hyr, hyt, hyv⟩ := hy
  cases hv
  cases hv'
  have hzx := hxt.nil_iff (B := B32) (by decide)
  have hzy := hyt.nil_iff (B := B32) (by decide)
  rw [hxv] at hzx
  rw [hyv] at hzy
  have hlx : mx ≠ 0 → xs.length ≤ 1099511627776 := fun h => by have := man_len hxt hxv (man_lt hX); omega
  have hly : my ≠ 0 → ys.length ≤ 1099511627776 := fun h => by have := man_len hyt hyv (man_lt hY); omega
  by_cases h0 : mx = 0
  · have h1 : ((xs.length : Int) == 0) = true := by simp; exact List.length_eq_zero_iff.1 (hzx.2 h0)
    clear hzx hzy hxv hyv hxt hyt hxr hyr hex hey hX hY hlx hly
    go_enter Tryz.func72, Tryz.ntmps72
    go_wp2
    go_quiet (fail)
    go_wp2
    go_ret3
    have hb : Below w.heap.size w (((w.alloc (.cells #[.bool nx, .slice A xs.length ca, .int .i64 ex] 38)).alloc (.cells #[.bool ny, .slice B ys.length cb, .int .i64 ey] 38)).drewN nq) := below_drewN (below_new (below_new (Below.refl _ _) _) _) _
    exact ⟨_, _, _, rfl, ⟨0, my, mRd_nil _ _ _ _, mRd.below HY.out hb, ⟨fun _ => h0, fun _ => rfl⟩, Iff.rfl, fun h => absurd h0 h⟩, hb⟩
  · have h1 : ((xs.length : Int) == 0) = false := by simp; exact fun h => h0 (hzx.1 (by rw [h]; rfl))
    by_cases h2 : my = 0
    · have h3 : ((ys.length : Int) == 0) = true := by simp; exact List.length_eq_zero_iff.1 (hzy.2 h2)
      clear hzx hzy hxv hyv hxt hyt hxr hyr hex hey hX hY hlx hly
      go_enter Tryz.func72, Tryz.ntmps72
      go_wp2
      go_quiet (fail)
      go_wp2
      go_ret3
      have hb : Below w.heap.size w (((w.alloc (.cells #[.bool nx, .slice A xs.length ca, .int .i64 ex] 38)).alloc (.cells #[.bool ny, .slice B ys.length cb, .int .i64 ey] 38)).drewN nq) := below_drewN (below_new (below_new (Below.refl _ _) _) _) _
      exact ⟨_, _, _, rfl, ⟨mx, 0, mRd.below HX.out hb, mRd_nil _ _ _ _, Iff.rfl, ⟨fun _ => h2, fun _ => rfl⟩, fun _ h => absurd h2 h⟩, hb⟩
    · have h3 : ((ys.length : Int) == 0) = false := by simp; exact fun h => h2 (hzy.1 (by rw [h]; rfl))
      have hlx := hlx h0
      have hly := hly h2
      have hex := hex h0
      have hey := hey h2
      have hEX := exp_lt h0 hX
      have hEY := exp_lt h2 hY
      clear hX hY hzx hzy
      rcases Int.lt_or_le ey ex with hlt | hle
      · obtain ⟨n, rfl⟩ : ∃ n : Nat, ex = ey + n := ⟨(ex - ey).toNat, by omega⟩
        have hn : n ≤ 1099511627776 := by omega
        have hw : IntKind.i64.wrap (ey + n - ey) = n := by rw [show ey + (n : Int) - ey = n from by omega]; exact IntWalk.i64_in _ (by omega)
        have HV := Lib.hid hxv
        have HR : Hid (∀ W, Below w.heap.size w W → u32.Row 58 W base A xs) := fun W h => hxr.below h
        have HE := Lib.hid hey
        clear hxv hyv hxt hyt hyr hEX hEY hex hey
        go_enter Tryz.func72, Tryz.ntmps72
        go_wp2
        go_region_held3 (fun w' => w'.cell? ⟨w.heap.size, 1, none⟩ = some (.slice A xs.length ca) ∧ w'.cell? ⟨w.heap.size, 2, none⟩ = some (.int .i64 (ey + n)) ∧ w'.cell? ⟨w.heap.size + 1, 1, none⟩ = some (.slice B ys.length cb) ∧ w'.cell? ⟨w.heap.size + 1, 2, none⟩ = some (.int .i64 ey)) (first | go_keep | exact ⟨(hbl.cell (by simp <;> omega)).trans (by go_simp), (hbl.cell (by simp <;> omega)).trans (by go_simp), (hbl.cell (by simp <;> omega)).trans (by go_simp), (hbl.cell (by simp <;> omega)).trans (by go_simp)⟩) ((go_at_call 54; refine (left_calls A _ ca 58 base base n xs _ rfl (HR.out _ (by repeat (first | exact Below.refl _ _ | apply Below.drew | apply below_new))) hlx hn).mono ?_; rintro e w1 ⟨v, rfl, hm, hbl⟩))
        go_wp2
        go_ret3
        have hb2 : Below w.heap.size w w1 := below_next (by repeat (first | exact Below.refl _ _ | apply Below.drew | apply below_new)) hbl
        refine ⟨_, _, _, rfl, ⟨_, my, hm, mRd.below HY.out hb2, ?_, Iff.rfl, fun _ _ => ⟨HE.out, by omega, ?_, rfl⟩⟩, hb2⟩
        · rw [HV.out]; have := Nat.pow_pos (n := n) (show 0 < 2 by decide); simp [Nat.mul_eq_zero]
        · rw [HV.out, Nat.mul_assoc, ← Nat.pow_add, show n + (ey + K).toNat = (ey + n + K).toNat from by have := HE.out; omega]
      · obtain ⟨n, rfl⟩ : ∃ n : Nat, ey = ex + n := ⟨(ey - ex).toNat, by omega⟩
        have hn : n ≤ 1099511627776 := by omega
        have hw : IntKind.i64.wrap (ex + n - ex) = n := by rw [show ex + (n : Int) - ex = n from by omega]; exact IntWalk.i64_in _ (by omega)
        have HV := Lib.hid hyv
        have HR : Hid (∀ W, Below w.heap.size w W → u32.Row 58 W base B ys) := fun W h => hyr.below h
        have HE := Lib.hid hex
        clear hxv hyv hxt hyt hxr hEX hEY hex hey
        go_enter Tryz.func72, Tryz.ntmps72
        go_wp2
        go_region_held3 (fun w' => w'.cell? ⟨w.heap.size, 1, none⟩ = some (.slice A xs.length ca) ∧ w'.cell? ⟨w.heap.size, 2, none⟩ = some (.int .i64 ex) ∧ w'.cell? ⟨w.heap.size + 1, 1, none⟩ = some (.slice B ys.length cb) ∧ w'.cell? ⟨w.heap.size + 1, 2, none⟩ = some (.int .i64 (ex + n))) (first | go_keep | exact ⟨(hbl.cell (by simp <;> omega)).trans (by go_simp), (hbl.cell (by simp <;> omega)).trans (by go_simp), (hbl.cell (by simp <;> omega)).trans (by go_simp), (hbl.cell (by simp <;> omega)).trans (by go_simp)⟩) ((go_at_call 54; refine (left_calls B _ cb 58 base base n ys _ rfl (HR.out _ (by repeat (first | exact Below.refl _ _ | apply Below.drew | apply below_new))) hly hn).mono ?_; rintro e w1 ⟨v, rfl, hm, hbl⟩))
        go_wp2
        go_ret3
        have hb2 : Below w.heap.size w w1 := below_next (by repeat (first | exact Below.refl _ _ | apply Below.drew | apply below_new)) hbl
        refine ⟨_, _, _, rfl, ⟨mx, _, mRd.below HX.out hb2, hm, Iff.rfl, ?_, fun _ _ => ⟨HE.out, by omega, rfl, ?_⟩⟩, hb2⟩
        · rw [HV.out]; have := Nat.pow_pos (n := n) (show 0 < 2 by decide); simp [Nat.mul_eq_zero]
        · rw [HV.out, Nat.mul_assoc, ← Nat.pow_add, show n + (ex + K).toNat = (ex + n + K).toNat from by have := HE.out; omega]
end Go.Proofs.YtikdhkmcdmnadaaGreatFmt
