/- Walks and plain laws of this seat's functions, part 4: A6 A7 A8 A9. -/
import Derived.Shelf.Bits.Mul64
import Derived.ChangeKeysEq
import Derived.Test.YtcfejobdgiiihaaGreatDoorJ02
import Derived.Test.YtcfejobdgiiihaaGreatDoorJ03
set_option linter.unusedVariables false
set_option linter.unusedSimpArgs false
namespace Go.Proofs.YtcfejobdgiiihaaGreatDoor
open Go.RowKit

set_option maxHeartbeats 1000000 in
theorem mul64_calls (x y : Nat) (hx : x < 18446744073709551616) (hy : y < 18446744073709551616) (w : World) :
    Calls Tryz.prog 85 #[.int .u64 x, .int .u64 y] w fun e w' => e = .returned (.tuple #[.int .u64 ((x * y / 18446744073709551616 : Nat) : Int), .int .u64 ((x * y % 18446744073709551616 : Nat) : Int)]) ∧ w = w' := by
  obtain ⟨bd, bt, bw, hhi⟩ := Lib.mul64_hi x y hx hy
  have ba := Lib.half_mul_le (a := x / 4294967296) (b := y / 4294967296) (by omega) (by omega)
  have bb := Lib.half_mul_le (a := x / 4294967296) (b := y % 4294967296) (by omega) (by omega)
  have bc := Lib.half_mul_le (a := x % 4294967296) (b := y / 4294967296) (by omega) (by omega)
  have ba' : x / 4294967296 * (y / 4294967296) < 18446744073709551616 := by omega
  have bb' : x / 4294967296 * (y % 4294967296) < 18446744073709551616 := by omega
  have bc' : x % 4294967296 * (y / 4294967296) < 18446744073709551616 := by omega
  have bh1 : x / 4294967296 * (y / 4294967296) + (x / 4294967296 * (y % 4294967296) + x % 4294967296 * (y % 4294967296) / 4294967296) / 4294967296 < 18446744073709551616 := by omega
  have bh : x / 4294967296 * (y / 4294967296) + (x / 4294967296 * (y % 4294967296) + x % 4294967296 * (y % 4294967296) / 4294967296) / 4294967296 + ((x / 4294967296 * (y % 4294967296) + x % 4294967296 * (y % 4294967296) / 4294967296) % 4294967296 + x % 4294967296 * (y / 4294967296)) / 4294967296 < 18446744073709551616 := by omega
  go_enter Tryz.func85, Tryz.ntmps85
  go_wp2
  simp only [Mul64.maskN x hx, Mul64.maskN y hy, Mul64.divN, Mul64.mulN, Mul64.addN, Mul64.wrapN _ bd, Mul64.wrapN _ bb', Mul64.wrapN _ bt, Mul64.maskN _ bt, Mul64.wrapN _ bc', Mul64.wrapN _ bw, Mul64.wrapN _ ba', Mul64.wrapN _ bh1, Mul64.wrapN _ bh, Mul64.wrapM (x * y)]
  rw [hhi]
  go_ret2
  exact ⟨rfl, rfl⟩
set_option maxHeartbeats 1000000 in
theorem apibits_calls (u : Nat) (w : World) : Calls Tryz.prog 18 #[.float .f64 u] w fun e w' => e = .returned (.int .u64 u) ∧ w = w' := by
  go_enter Tryz.func18, Tryz.ntmps18
  go_wp2
  go_ret
  exact ⟨rfl, rfl⟩
def uexp (u : Nat) : Nat := max (fexp u) 1
set_option maxHeartbeats 1000000 in
set_option maxRecDepth 100000 in
theorem split_calls (u : Nat) (w : World) (hu : u < 18446744073709551616) (hf : fin u = true) :
    Calls Tryz.prog 84 #[.float .f64 u] w fun e w' => e = .returned (.tuple #[.bool (fneg u), .int .u64 (fman u : Nat), .int .i64 ((uexp u : Nat) - 1075), .bool true]) ∧ w = w' := by
  have hb1 := bits_fexp hu
  have hb2 := bits_fman hu
  have hf' : fexp u ≠ 2047 := by simpa [fin] using hf
  have he := fexp_lt u
  have HN : Hid (fneg u = decide ((u : Int) / 9223372036854775808 = 1)) := by simp only [Hid, fneg]; congr 1; simp; omega
  have hm := Nat.mod_lt u (show 0 < 4503599627370496 by decide)
  have HFM : Hid (fman u = if fexp u = 0 then u % 4503599627370496 else u % 4503599627370496 + 4503599627370496) := rfl
  have HUE : Hid (uexp u = max (fexp u) 1) := rfl
  generalize fexp u = x at *
  generalize u % 4503599627370496 = m at *
  have hb3 := bits_hid hm
  simp only [Int.natCast_add, Int.cast_ofNat_Int] at hb3
  have hx1 : ((x : Int) == 2047) = false := by simp; omega
  have HF := Lib.hid hf'
  have HA := Lib.hid (fun W => apibits_calls u W)
  clear hf' hf
  by_cases h0 : x = 0
  · subst h0
    go_enter Tryz.func84, Tryz.ntmps84
    go_wp2_with fail
    refine (HA.out _).mono ?_
    rintro e w' ⟨rfl, rfl⟩
    go_wp2
    exact bodyPost_ret (v := .tuple #[.bool ((u : Int) / 9223372036854775808 == 1), .int .u64 m, .int .i64 (-1074), .bool true]) (by simp [results, Tryz.results84, go_sem]) rfl ⟨by rw [HN.out, HFM.out, if_pos trivial, HUE.out]; rfl, rfl⟩
  · have hx0 : ((x : Int) == 0) = false := by simp; omega
    have H0 := Lib.hid h0
    clear h0
    go_enter Tryz.func84, Tryz.ntmps84
    go_wp2_with fail
    refine (HA.out _).mono ?_
    rintro e w' ⟨rfl, rfl⟩
    go_wp2
    exact bodyPost_ret (v := .tuple #[.bool ((u : Int) / 9223372036854775808 == 1), .int .u64 ((m : Int) + 4503599627370496), .int .i64 ((x : Int) - 1075), .bool true]) (by simp [results, Tryz.results84, go_sem]) rfl ⟨by rw [HN.out, HFM.out, if_neg H0.out, HUE.out, Nat.max_eq_left (by have := H0.out; omega)]; rfl, rfl⟩
/-- three words of a shifted product -/
theorem prod_words {lo hi r : Nat} (hlo : lo < B64) (hhi : hi < B64) (hr : r < 64) : val B64 [lo * 2 ^ r % B64, hi * 2 ^ r % B64 + lo / 2 ^ (64 - r), hi / 2 ^ (64 - r)] = (hi * B64 + lo) * 2 ^ r ∧ hi * 2 ^ r % B64 + lo / 2 ^ (64 - r) < B64 := by
  have hB : B64 = 2 ^ r * 2 ^ (64 - r) := by rw [← Nat.pow_add, show r + (64 - r) = 64 from by omega]
  have hP : 0 < 2 ^ r := Nat.pow_pos (by decide)
  have hQ : 0 < 2 ^ (64 - r) := Nat.pow_pos (by decide)
  have e1 : ∀ x, x * 2 ^ r / B64 = x / 2 ^ (64 - r) := fun x => by rw [hB, Nat.mul_comm x, Nat.mul_div_mul_left _ _ hP]
  have e2 : ∀ x, x * 2 ^ r % B64 = 2 ^ r * (x % 2 ^ (64 - r)) := fun x => by
    conv => lhs; rw [hB, Nat.mul_comm x, Nat.mul_mod_mul_left]
  have d1 := Nat.div_add_mod (lo * 2 ^ r) B64
  have d2 := Nat.div_add_mod (hi * 2 ^ r) B64
  rw [e1] at d1 d2
  have hl : lo / 2 ^ (64 - r) < 2 ^ r := by rw [Nat.div_lt_iff_lt_mul hQ, ← hB]; exact hlo
  refine ⟨?_, ?_⟩
  · rw [Nat.add_mul, Nat.mul_right_comm hi B64]
    simp only [val, B64] at *
    generalize lo * 2 ^ r = a at *
    generalize hi * 2 ^ r = c at *
    omega
  · rw [e2]
    have : hi % 2 ^ (64 - r) < 2 ^ (64 - r) := Nat.mod_lt _ hQ
    have : 2 ^ r * (hi % 2 ^ (64 - r)) + 2 ^ r ≤ 2 ^ r * 2 ^ (64 - r) := by rw [← Nat.mul_succ]; exact Nat.mul_le_mul_left _ this
    rw [← hB] at this
    omega
theorem prod_or {lo hi r : Nat} (hlo : lo < B64) (hr : r < 64) : (hi * 2 ^ r % B64) ||| (lo / 2 ^ (64 - r)) = hi * 2 ^ r % B64 + lo / 2 ^ (64 - r) := by
  have hB : B64 = 2 ^ r * 2 ^ (64 - r) := by rw [← Nat.pow_add, show r + (64 - r) = 64 from by omega]
  have hQ : 0 < 2 ^ (64 - r) := Nat.pow_pos (by decide)
  have hl : lo / 2 ^ (64 - r) < 2 ^ r := by rw [Nat.div_lt_iff_lt_mul hQ, ← hB]; exact hlo
  have e2 : hi * 2 ^ r % B64 = 2 ^ r * (hi % 2 ^ (64 - r)) := by
    conv => lhs; rw [hB, Nat.mul_comm hi, Nat.mul_mod_mul_left]
  rw [e2, Nat.or_comm, or_add_low (r := r) hl (Nat.mul_mod_right _ _), Nat.add_comm]
theorem aput_calls (b i v0 v1 v2 at_ : Nat) (minus : Bool) (X Y : Int) (w : World) (hb : AccI w b X) (hvb : ∀ d ∈ [v0, v1, v2], d < B64) (hi : at_ / 64 = i) (hi2 : i ≤ 70) (hY : Y = X + sg minus (B64 ^ i * val B64 [v0, v1, v2])) (hYc : Y.natAbs < Cap) :
    Calls Tryz.prog 86 #[.pointer (some ⟨b, 0, none⟩), .agg #[.int .u64 v0, .int .u64 v1, .int .u64 v2], .int .i64 at_, .bool minus] w fun e w' => e = .returned (.tuple #[]) ∧ AccI w' b Y ∧ Below b w w' := by
  obtain ⟨_, ws, hw, hb⟩ := hb
  cases minus
  · exact aput_plus b i v0 v1 v2 at_ X Y ws w hb hw hvb hi hi2 hY hYc
  · exact aput_minus b i v0 v1 v2 at_ X Y ws w hb hw hvb hi hi2 (by rw [hY]; simp only [sg, if_true]; omega) hYc
theorem AccI.below {w w' : World} {b : Nat} {X : Int} (h : AccI w b X) {B : Nat} (hb : Below B w w') (hlt : b < B) : AccI w' b X := by
  obtain ⟨h1, ws, h2, h3⟩ := h
  exact ⟨h1, ws, h2, h3.below hb hlt⟩
theorem AccI.lt {w : World} {b : Nat} {X : Int} (h : AccI w b X) : b < w.heap.size := by
  obtain ⟨_, ws, _, h3⟩ := h; exact h3.lt
theorem AccI.below' {w w' : World} {b : Nat} {X : Int} (h : AccI w b X) (hb : Below w.heap.size w w') : AccI w' b X := h.below hb h.lt
theorem fman_lt (u : Nat) : fman u < 9007199254740992 := by
  have := Nat.mod_lt u (show 0 < 4503599627370496 by decide)
  unfold fman; split <;> omega
theorem uexp_lt {u : Nat} (h : fin u = true) : 1 ≤ uexp u ∧ uexp u ≤ 2046 := by
  have h1 := fexp_lt u
  have h2 : fexp u ≠ 2047 := by simpa [fin] using h
  unfold uexp; omega
theorem fv_eq (u : Nat) : fv u = sg (fneg u) (fman u * 2 ^ (uexp u - 1)) := rfl
theorem sg_times (a b : Bool) (m n : Nat) : sg a m * sg b n = sg (a != b) (m * n) := by
  cases a <;> cases b <;> simp [sg, Int.natCast_mul, Int.neg_mul, Int.mul_neg]
theorem sg_pow (a : Bool) (m n : Nat) : sg a m * (n : Int) = sg a (m * n) := by cases a <;> simp [sg, Int.natCast_mul, Int.neg_mul]
/-- what a product adds -/
theorem prod_adds {u v p lo hi : Nat} (hu : 1 ≤ uexp u) (hv : 1 ≤ uexp v) (hp : p = uexp u + uexp v + 62) (hm : hi * B64 + lo = fman u * fman v) (hlo : lo < B64) (hhi : hi < B64) {A D q2 : Nat}
    (hA : A = lo * 2 ^ (p % 64) % B64) (hD : D = hi * 2 ^ (p % 64) % B64 + lo / 2 ^ (64 - p % 64)) (hq : q2 = hi / 2 ^ (64 - p % 64)) :
    sg (fneg u != fneg v) (B64 ^ (p / 64) * val B64 [A, D, q2]) = fv u * fv v * (2 ^ 64 : Nat) := by
  rw [hA, hD, hq, (prod_words hlo hhi (Nat.mod_lt _ (by decide))).1, hm, fv_eq, fv_eq, sg_times, sg_pow]
  congr 1
  have := pow_64 p
  rw [Nat.mul_left_comm, show B64 ^ (p / 64) * 2 ^ (p % 64) = 2 ^ p from this]
  have e : 2 ^ p = 2 ^ (uexp u - 1) * 2 ^ (uexp v - 1) * 2 ^ 64 := by rw [← Nat.pow_add, ← Nat.pow_add]; congr 1; omega
  rw [e, Nat.mul_mul_mul_comm (fman u) (2 ^ (uexp u - 1)), Nat.mul_assoc (fman u * fman v)]
set_option maxHeartbeats 4000000 in
set_option maxRecDepth 100000 in
theorem aprod_calls (b u v : Nat) (X Y : Int) (w : World) (hb : AccI w b X) (hu : u < 18446744073709551616) (hfu : fin u = true) (hv : v < 18446744073709551616) (hfv : fin v = true) (hY : Y = X + fv u * fv v * (2 ^ 64 : Nat)) (hYc : Y.natAbs < Cap) :
    Calls Tryz.prog 50 #[.pointer (some ⟨b, 0, none⟩), .float .f64 u, .float .f64 v, .int .i64 0] w fun e w' => e = .returned (.tuple #[]) ∧ AccI w' b Y ∧ Below b w w' := by
  have hAcc := Lib.hid hb
  have hx76 : w.cell? ⟨b, 76, none⟩ = some (.bool false) := by obtain ⟨_, ws, hw, hb⟩ := hb; exact acc_mark hb hw.len
  have hbl : b < w.heap.size := by obtain ⟨_, ws, hw, hb⟩ := hb; exact hb.lt
  have HA := Lib.hid (split_calls u w hu hfu)
  have HB := Lib.hid (split_calls v w hv hfv)
  have hmb0 := fman_lt u
  have hkb0 := fman_lt v
  obtain ⟨he1, he2⟩ := uexp_lt hfu
  obtain ⟨hf1, hf2⟩ := uexp_lt hfv
  have HM := Lib.hid (mul64_calls (fman u) (fman v) (by omega) (by omega) w)
  obtain ⟨hi, hhi⟩ : ∃ hi, fman u * fman v / 18446744073709551616 = hi := ⟨_, rfl⟩
  obtain ⟨lo, hlo⟩ : ∃ lo, fman u * fman v % 18446744073709551616 = lo := ⟨_, rfl⟩
  rw [hhi, hlo] at HM
  have hmul : hi * B64 + lo = fman u * fman v := by rw [← hhi, ← hlo, Nat.mul_comm]; exact Nat.div_add_mod _ _
  have hlob : lo < B64 := by rw [← hlo]; exact Nat.mod_lt _ (by decide)
  have hhib : hi < B64 := by
    rw [← hhi, Nat.div_lt_iff_lt_mul (by decide)]
    exact Nat.lt_of_le_of_lt (Nat.mul_le_mul (Nat.le_of_lt hmb0) (Nat.le_of_lt hkb0)) (by decide)
  obtain ⟨p, hp⟩ : ∃ p : Nat, p = uexp u + uexp v + 62 := ⟨_, rfl⟩
  have hadd := prod_adds he1 hf1 hp hmul hlob hhib rfl rfl rfl
  have hDb := (prod_words hlob hhib (Nat.mod_lt p (show 0 < 64 by decide))).2
  have hor := prod_or (hi := hi) hlob (Nat.mod_lt p (show 0 < 64 by decide))
  obtain ⟨r, hr⟩ : ∃ r : Nat, p % 64 = r := ⟨_, rfl⟩
  rw [hr] at hadd hDb hor
  obtain ⟨s, hs⟩ : ∃ s : Nat, 64 - r = s := ⟨_, rfl⟩
  rw [hs] at hadd hDb hor
  obtain ⟨A, hA⟩ : ∃ A, lo * 2 ^ r % B64 = A := ⟨_, rfl⟩
  obtain ⟨C, hC⟩ : ∃ C, hi * 2 ^ r % B64 = C := ⟨_, rfl⟩
  obtain ⟨q1, hq1⟩ : ∃ q1, lo / 2 ^ s = q1 := ⟨_, rfl⟩
  obtain ⟨q2, hq2⟩ : ∃ q2, hi / 2 ^ s = q2 := ⟨_, rfl⟩
  rw [hC, hq1] at hor hDb
  rw [hA, hC, hq1, hq2] at hadd
  have hAb : A < B64 := by rw [← hA]; exact Nat.mod_lt _ (by decide)
  have hq2b : q2 < B64 := by rw [← hq2]; exact Nat.lt_of_le_of_lt (Nat.div_le_self _ _) hhib
  obtain ⟨D, hD⟩ : ∃ D, C + q1 = D := ⟨_, rfl⟩
  rw [hD] at hor hadd hDb
  have w1 : IntKind.u64.wrap ((lo : Int) * 2 ^ r) = (A : Int) := by
    have : (lo : Int) * 2 ^ r = ((lo * 2 ^ r : Nat) : Int) := by rw [Int.natCast_mul, Int.natCast_pow]; rfl
    rw [this, Mul64.wrapM]; rw [← hA]
  have w2 : IntKind.u64.wrap ((hi : Int) * 2 ^ r) = (C : Int) := by
    have : (hi : Int) * 2 ^ r = ((hi * 2 ^ r : Nat) : Int) := by rw [Int.natCast_mul, Int.natCast_pow]; rfl
    rw [this, Mul64.wrapM]; rw [← hC]
  have w3 : (lo : Int) / 2 ^ s = (q1 : Int) := by rw [shr_nat, hq1]
  have w4 : (hi : Int) / 2 ^ s = (q2 : Int) := by rw [shr_nat, hq2]
  have hq1b : q1 < B64 := by rw [← hq1]; exact Nat.lt_of_le_of_lt (Nat.div_le_self _ _) hlob
  have hCb : C < B64 := by rw [← hC]; exact Nat.mod_lt _ (by decide)
  have w5 : bits .or .u64 (C : Int) (q1 : Int) = (D : Int) := by rw [u64_or_nat _ _ hCb hq1b, hor]
  have HPUT := Lib.hid (fun W (hW : AccI W b X) => aput_calls b (p / 64) A D q2 p (!(fneg u == fneg v)) X Y W hW (by intro d hd; simp at hd; rcases hd with rfl | rfl | rfl <;> assumption) rfl (by omega) (by show Y = X + sg (fneg u != fneg v) _; rw [hadd]; exact hY) hYc)
  have hmb : fman u < 18446744073709551616 := by omega
  have hkb : fman v < 18446744073709551616 := by omega
  have hp1 : (uexp u : Int) - 1075 + ((uexp v : Int) - 1075) + 2212 = (p : Int) := by omega
  have hr1 : (p : Int) % 64 = (r : Int) := by omega
  have hs1 : (64 : Int) - (r : Int) = (s : Int) := by omega
  have hr2 : r < 64 := by omega
  have hs2 : s ≤ 64 := by omega
  have hs3 : IntKind.i64.wrap (s : Int) = (s : Int) := IntWalk.i64_in _ (by omega)
  have hs4 : (0 : Int) ≤ (s : Int) := by omega
  have hr4 : (0 : Int) ≤ (r : Int) := by omega
  clear hb hhi hlo hr hs hp hadd hA hC hq1 hq2 hD hY hYc hor hmul hDb hAb hq2b hq1b hCb hhib hlob hfu hfv
  generalize fman u = m at *
  generalize fman v = k at *
  generalize uexp u = e at *
  generalize uexp v = f at *
  generalize fneg u = su at *
  generalize fneg v = sv at *
  go_enter Tryz.func50, Tryz.ntmps50
  go_wp2_with fail
  refine HA.out.mono ?_
  rintro e w' ⟨rfl, rfl⟩
  go_wp2_with fail
  refine HB.out.mono ?_
  rintro e w' ⟨rfl, rfl⟩
  go_wp2_with fail
  refine HM.out.mono ?_
  rintro e w' ⟨rfl, rfl⟩
  go_wp2_with fail
  go_region_with (fail)
  go_wp2_with fail
  refine (HPUT.out _ (AccI.below' hAcc.out (Below.drew (below_new (Below.refl _ _) _)))).mono ?_
  rintro e w2 ⟨rfl, hI, hW⟩
  have HI := Lib.hid (And.intro hI (((Below.drew (below_new (Below.refl w.heap.size w) _)).mono (Nat.le_of_lt hbl)).trans hW))
  clear hI hW
  go_wp2
  go_end0
  exact ⟨rfl, HI.out.1, HI.out.2⟩
end Go.Proofs.YtcfejobdgiiihaaGreatDoor

namespace Go.Proofs.YtcfejobdgiiihaaGreatDoor
open Go.RowKit

theorem fin_one : fin 4607182418800017408 = true := by decide
set_option exponentiation.threshold 6000 in
theorem fv_one : fv 4607182418800017408 = (2 ^ 1074 : Nat) := by
  have h1 : fneg 4607182418800017408 = false := by decide
  have h2 : fman 4607182418800017408 = 2 ^ 52 := by decide
  have h3 : uexp 4607182418800017408 = 1023 := by decide
  rw [fv_eq, h1, h2, h3, ← Nat.pow_add]; rfl
set_option maxHeartbeats 1000000 in
set_option maxRecDepth 100000 in
theorem aadd_calls (b u : Nat) (X Y : Int) (w : World) (hb : AccI w b X) (hu : u < 18446744073709551616) (hfu : fin u = true) (hY : Y = X + fv u * (2 ^ 1074 : Nat) * (2 ^ 64 : Nat)) (hYc : Y.natAbs < Cap) :
    Calls Tryz.prog 47 #[.pointer (some ⟨b, 0, none⟩), .float .f64 u] w fun e w' => e = .returned (.tuple #[]) ∧ AccI w' b Y ∧ Below b w w' := by
  have HP := Lib.hid (aprod_calls b u 4607182418800017408 X Y w hb hu hfu (by decide) fin_one (by rw [fv_one]; exact hY) hYc)
  clear hb hY hYc
  go_enter Tryz.func47, Tryz.ntmps47
  go_wp2_with fail
  refine HP.out.mono ?_
  rintro e w2 ⟨rfl, hI, hW⟩
  have HI := Lib.hid (And.intro hI hW)
  clear hI hW
  go_wp2
  go_end0
  exact ⟨rfl, HI.out.1, HI.out.2⟩
theorem Z77 : Tryz.zeroCells129.toList = accCells (List.replicate 76 0) false := by kernel_rfl
theorem words_zero : WordsOf 0 (List.replicate 76 0) := by
  refine .mk' (q := 0) (by simp) (by intro d hd; simp at hd; subst hd; decide) ?_
  rw [val_replicate]; simp
set_option exponentiation.threshold 6000 in
theorem cap_pos : 0 < Cap := Nat.pow_pos (by decide)
set_option maxHeartbeats 1000000 in
set_option maxRecDepth 100000 in
theorem anew_calls (w : World) :
    Calls Tryz.prog 79 #[] w fun e w' => e = .returned (.pointer (some ⟨w.heap.size, 0, none⟩)) ∧ AccI w' w.heap.size 0 ∧ Below w.heap.size w w' := by
  have h1 := Blk.new w Tryz.zeroCells129 129
  rw [Z77] at h1
  have H1 := Lib.hid h1
  clear h1
  go_enter Tryz.func79, Tryz.ntmps79
  go_wp2
  go_ret
  exact ⟨rfl, ⟨cap_pos, _, words_zero, H1.out⟩, below_new (Below.refl _ _) _⟩
theorem Mag.words {n : Nat} {ys : List Nat} (h : Mag n ys) : WordsOf n ys := .mk' (q := 0) h.len h.bd (by rw [h.eq]; simp)
set_option maxHeartbeats 2000000 in
set_option maxRecDepth 100000 in
theorem aabs_calls (b : Nat) (X : Int) (w : World) (hb : AccI w b X) :
    Calls Tryz.prog 48 #[.pointer (some ⟨b, 0, none⟩)] w fun e w' => e = .returned (.tuple #[]) ∧ AccI w' b (X.natAbs : Int) ∧ Below b w w' := by
  have hbl := hb.lt
  obtain ⟨hX, ws, hw, hb⟩ := hb
  have HS := Lib.hid (asize_calls b X ws false w hb hw hX)
  have HX := Lib.hid hX
  have HB := Lib.hid hb
  have hwl := hw.len
  clear hb hw hX
  go_enter Tryz.func48, Tryz.ntmps48
  go_wp2_with fail
  refine HS.out.mono ?_
  rintro e w2 ⟨⟨ys, rfl, hm⟩, hW⟩
  have hI : Hid ((Tryz.prog.info? 126).map (·.size) = some (i64s ys).length) := by rw [i64s_length, hm.len]; exact I76
  have hL : Hid ((i64s ws).length = (i64s ys).length) := by simp only [Hid, i64s_length, hwl, hm.len]
  have hB2 := Lib.hid (HB.out.below' hW)
  have HM := Lib.hid hm
  have HW := Lib.hid hW
  clear hm hW
  dsimp only
  repeat (first | (refine wp_store_front 126 (.tmp 6) (.tmp 4) (by rfl) b 129 (by rfl) (i64s ws) [.bool false] (i64s ys) (by rfl) hB2.out hL.out hI.out (i64s_one _) ?_; intro w3 hb3 hO3) | go_skip | go_guarded | go_step)
  go_end0
  exact ⟨rfl, ⟨by rw [Int.natAbs_natCast]; exact HX.out, ys, HM.out.words, hb3⟩, (HW.out.mono (Nat.le_of_lt hbl)).trans hO3.below⟩
end Go.Proofs.YtcfejobdgiiihaaGreatDoor

namespace Go.Proofs.YtcfejobdgiiihaaGreatDoor
open Go.RowKit

theorem A50 : Tryz.prog.plainKey 50 = true := by kernel_rfl
theorem C50 : Tryz.prog.cellsOf 50 = 1 := by kernel_rfl
theorem U50 : Tryz.prog.underlying 50 = some (.int .u64) := Tryz.underlying50
theorem i64s_get {zs : List Nat} {i : Nat} (h : i < zs.length) : (i64s zs).toArray[i]? = some (.int .u64 (zs.getD i 0 : Nat)) := by simp [i64s, h]
theorem eqItems_u64 (d : Nat) (zs ys : List Nat) (w : World) : ∀ is : List Nat, (∀ i ∈ is, i < zs.length ∧ i < ys.length) →
    (Op.eqItems (d + 1) 50 1 (i64s zs).toArray (i64s ys).toArray is).run Tryz.prog w = .ok (decide (∀ i ∈ is, zs.getD i 0 = ys.getD i 0)) w
  | [], _ => by simp [Op.eqItems]
  | i :: is, h => by
    have ih := eqItems_u64 d zs ys w is (fun j hj => h j (by simp [hj]))
    obtain ⟨h1, h2⟩ := h i (by simp)
    have p1 := run_part_plain w A50 (xs := (i64s zs).toArray) (off := i * 1) (by rw [Nat.mul_one]; exact i64s_get h1)
    have p2 := run_part_plain w A50 (xs := (i64s ys).toArray) (off := i * 1) (by rw [Nat.mul_one]; exact i64s_get h2)
    have p3 := run_equalIn_int w d 50 .u64 .u64 (zs.getD i 0 : Nat) (ys.getD i 0 : Nat) U50
    simp only [Op.eqItems, Sem.run_bind, p1, p2, p3, Result.andThen_ok]
    have hz : (zs.getD i 0 = ys.getD i 0) ↔ ((((zs.getD i 0 : Nat) : Int) == ((ys.getD i 0 : Nat) : Int)) = true) := by rw [beq_iff_eq, Int.ofNat_inj]
    have hd : decide (∀ j ∈ i :: is, zs.getD j 0 = ys.getD j 0) = ((((zs.getD i 0 : Nat) : Int) == ((ys.getD i 0 : Nat) : Int)) && decide (∀ j ∈ is, zs.getD j 0 = ys.getD j 0)) := by
      rw [Bool.eq_iff_iff, Bool.and_eq_true, decide_eq_true_eq, decide_eq_true_eq, ← hz, List.forall_mem_cons]
    rw [hd]
    generalize (((zs.getD i 0 : Nat) : Int) == ((ys.getD i 0 : Nat) : Int)) = r
    cases r
    · simp only [Bool.not_false, if_true, Sem.run_pure, Bool.false_and]
    · simp only [Bool.not_true, Bool.false_eq_true, if_false, Bool.true_and]
      exact ih
theorem U126 : Tryz.prog.underlying 126 = some (.array 76 50) := Tryz.underlying126
set_option maxRecDepth 100000 in
theorem eqIn_words (d : Nat) {zs : List Nat} (hl : zs.length = 76) (w : World) :
    (Op.equalIn (d + 2) 126 (.agg (i64s zs).toArray) (.agg Tryz.zeroCells126)).run Tryz.prog w = .ok (decide (zs = List.replicate 76 0)) w := by
  obtain ⟨i, hi⟩ := info_of_underlying U50
  have hz : Tryz.zeroCells126 = (i64s (List.replicate 76 0)).toArray := by rw [← Z76]
  rw [run_equalIn_array w (d + 1) _ _ U126 hi, C50, hz, eqItems_u64 d zs _ w _ (by intro i hi; simp at hi; simp; omega)]
  congr 1
  rw [Bool.eq_iff_iff, decide_eq_true_eq, decide_eq_true_eq]
  constructor
  · intro h
    refine List.ext_getElem (by simp [hl]) (fun i h1 h2 => ?_)
    have := h i (List.mem_range.2 (by omega))
    rw [getD_rep, List.getD_eq_getElem?_getD, List.getElem?_eq_getElem h1, Option.getD_some] at this
    rw [List.getElem_replicate]; exact this
  · rintro rfl i _; rfl
theorem eql_words {zs : List Nat} (hl : zs.length = 76) (w : World) :
    (Op.equalIn 10000 126 (.agg (i64s zs).toArray) (.agg Tryz.zeroCells126)).run Tryz.prog w = .ok (decide (zs = List.replicate 76 0)) w := eqIn_words 9998 hl w
theorem words_zero_iff {X : Int} {ws : List Nat} (h : WordsOf X ws) (hX : X.natAbs < Cap) : ws = List.replicate 76 0 ↔ X = 0 := by
  obtain ⟨_, h2, h3⟩ := h.top hX
  constructor
  · intro e
    have hv : val B64 ws = 0 := by rw [e, val_replicate]
    rcases Int.lt_or_le X 0 with hn | hn
    · have := h3 hn
      have hc := Nat.lt_of_lt_of_le hX pow4772
      rw [pow76] at this
      generalize B64 ^ 75 = P at *
      omega
    · have := h2 hn; omega
  · intro e
    have hv : val B64 ws = 0 := by rw [h2 (by omega), e]; rfl
    have : ∀ zs : List Nat, val B64 zs = 0 → zs = List.replicate zs.length 0 := by
      intro zs
      induction zs with
      | nil => intro _; rfl
      | cons z zs ih =>
        intro hz
        simp only [val] at hz
        have h0 : z = 0 := by omega
        have h1 : val B64 zs = 0 := by simp only [B64] at *; omega
        rw [List.length_cons, List.replicate_succ, ← ih h1, h0]
    rw [this ws hv, h.len]
set_option maxHeartbeats 2000000 in
set_option maxRecDepth 100000 in
theorem asign_calls (b : Nat) (X : Int) (w : World) (hb : AccI w b X) :
    Calls Tryz.prog 55 #[.pointer (some ⟨b, 0, none⟩)] w fun e w' => e = .returned (.int .i64 (Int.sign X)) ∧ w = w' := by
  obtain ⟨hX, ws, hw, hb⟩ := hb
  have hx76 := acc_mark hb hw.len
  have hI : Hid ((Tryz.prog.info? 126).map (·.size) = some (i64s ws).length) := by rw [i64s_length, hw.len]; exact I76
  have hR : Hid (w.rangeAt b 0 (i64s ws)) := acc_range hb hw.len
  have hE := eql_words hw.len w
  obtain ⟨z, hzd⟩ : ∃ z, decide (ws = List.replicate 76 0) = z := ⟨_, rfl⟩
  rw [hzd] at hE
  have HN := Lib.hid (aneg_calls b ws false w hb hw.len hw.bd)
  have hz := words_zero_iff hw hX
  rw [(hw.top hX).1] at HN
  have hz' : z = decide (X = 0) := by rw [← hzd, Bool.eq_iff_iff, decide_eq_true_eq, decide_eq_true_eq]; exact hz
  clear hb hw hX hzd hz
  have hgu : Tryz.prog.eqGuardType Tryz.prog.depth 126 = false := by kernel_rfl
  rcases Int.lt_trichotomy X 0 with h | h | h
  · rw [decide_eq_false (by omega)] at hz'
    subst hz'
    rw [decide_eq_true h] at HN
    have HX : Hid (Int.sign X = -1) := Int.sign_eq_neg_one_of_neg h
    clear h
    go_enter Tryz.func55, Tryz.ntmps55
    repeat (first | (refine wp_load_front 126 (.tmp 11) (by rfl) b (by rfl) (i64s ws) hR.out A76 hI.out ?_) | go_skip | go_guarded | go_step)
    refine HN.out.mono ?_
    rintro e w2 ⟨rfl, rfl⟩
    clear hI hR HN hE
    go_wp2
    go_ret
    exact ⟨by rw [HX.out]; rfl, rfl⟩
  · rw [decide_eq_true h] at hz'
    subst hz'
    have HX : Hid (Int.sign X = 0) := by rw [h]; rfl
    clear h
    go_enter Tryz.func55, Tryz.ntmps55
    repeat (first | (refine wp_load_front 126 (.tmp 11) (by rfl) b (by rfl) (i64s ws) hR.out A76 hI.out ?_) | go_skip | go_guarded | go_step)
    go_ret
    exact ⟨by rw [HX.out]; rfl, rfl⟩
  · rw [decide_eq_false (by omega)] at hz'
    subst hz'
    rw [decide_eq_false (by omega)] at HN
    have HX : Hid (Int.sign X = 1) := Int.sign_eq_one_of_pos h
    clear h
    go_enter Tryz.func55, Tryz.ntmps55
    repeat (first | (refine wp_load_front 126 (.tmp 11) (by rfl) b (by rfl) (i64s ws) hR.out A76 hI.out ?_) | go_skip | go_guarded | go_step)
    refine HN.out.mono ?_
    rintro e w2 ⟨rfl, rfl⟩
    clear hI hR HN hE
    go_wp2
    go_ret
    exact ⟨by rw [HX.out]; rfl, rfl⟩
end Go.Proofs.YtcfejobdgiiihaaGreatDoor

namespace Go.Proofs.YtcfejobdgiiihaaGreatDoor
open Go.RowKit

theorem acc_drop_at {ws rs : List Nat} {k : Nat} (hk : rs.length = k) : (rs ++ ws.drop k).getD k 0 = ws.getD k 0 := by
  simp only [List.getD_eq_getElem?_getD]
  rw [List.getElem?_append_right (by omega), hk, Nat.sub_self, List.getElem?_drop, Nat.add_zero]
theorem acc_drop_set {ws rs : List Nat} {k s : Nat} (hk : rs.length = k) (hl : k < ws.length) : (rs ++ ws.drop k).set k s = (rs ++ [s]) ++ ws.drop (k + 1) := by
  rw [List.set_append, if_neg (by omega), hk, Nat.sub_self, List.drop_eq_getElem_cons (by omega), List.append_assoc]; rfl
theorem SubInv.words {X Y : Int} {ws ys rs : List Nat} {c : Nat} (h : SubInv ws ys 76 rs c) (hx : WordsOf X ws) (hy : WordsOf Y ys) : WordsOf (X - Y) rs := by
  obtain ⟨p, hp⟩ := hx.val
  obtain ⟨q, hq⟩ := hy.val
  have e := h.eq
  have lx := hx.len
  have ly := hy.len
  rw [List.take_of_length_le (by omega), List.take_of_length_le (by omega)] at e
  refine .mk' (q := p - q + c) h.len h.bd ?_
  rw [Int.add_mul, Int.sub_mul]
  have e2 : (c : Int) * ((B64 ^ 76 : Nat) : Int) = ((B64 ^ 76 * c : Nat) : Int) := by rw [Int.natCast_mul, Int.mul_comm]
  rw [e2]
  generalize p * ((B64 ^ 76 : Nat) : Int) = a at *
  generalize q * ((B64 ^ 76 : Nat) : Int) = b at *
  generalize B64 ^ 76 * c = r at *
  omega
set_option maxHeartbeats 4000000 in
set_option maxRecDepth 100000 in
theorem ajoin_calls (b bY : Nat) (X Y : Int) (w : World) (hb : AccI w b X) (hy : AccI w bY Y) (hc : (X - Y).natAbs < Cap) :
    Calls Tryz.prog 49 #[.pointer (some ⟨b, 0, none⟩), .pointer (some ⟨bY, 0, none⟩), .bool true] w fun e w' => e = .returned (.tuple #[]) ∧ AccI w' b (X - Y) ∧ Below b w w' := by
  have hbl := hb.lt
  have hyl := hy.lt
  obtain ⟨_, ws, hw, hb⟩ := hb
  obtain ⟨_, ys, hyw, hy⟩ := hy
  have hx76 := acc_mark hb hw.len
  have hy76 := acc_mark hy hyw.len
  have hR : Hid (w.rangeAt bY 0 (i64s ys)) := acc_range hy hyw.len
  have hI : Hid ((Tryz.prog.info? 126).map (·.size) = some (i64s ys).length) := by rw [i64s_length, hyw.len]; exact I76
  have hL : Hid ((i64s (List.replicate 76 0)).length = (i64s ys).length) := by simp [Hid, i64s_length, hyw.len]
  have hY : Hid (Blk (w.alloc (.cells Tryz.zeroCells126 126)) w.heap.size 126 (i64s (List.replicate 76 0) ++ [])) := by
    have := Blk.new w Tryz.zeroCells126 126
    rw [Z76] at this
    simpa [Hid] using this
  have HB := Lib.hid hb
  have HWS := Lib.hid hw
  have HYS := Lib.hid hyw
  have HC := Lib.hid hc
  have HF := Lib.hid (fun zs W (h1 : Blk W b 129 (accCells zs false)) (h2 : WordsOf (X - Y) zs) => afit_calls b (X - Y) zs W h1 h2 hc)
  clear hb hw hy hyw hc
  go_enter Tryz.func49, Tryz.ntmps49
  repeat (first | (refine wp_load_front 126 (.tmp 28) (by rfl) bY (by rfl) (i64s ys) hR.out A76 hI.out ?_) | (refine wp_store_front 126 (.tmp 6) (.tmp 29) (by rfl) w.heap.size 126 (by rfl) (i64s (List.replicate 76 0)) [] (i64s ys) (by rfl) hY.out hL.out hI.out (i64s_one _) ?_; intro w2 hb2 hO2) | go_skip | go_guarded | go_step)
  have hb2' : Hid (Blk w2 w.heap.size 126 (i64s ys)) := by simpa [Hid] using hb2
  have hB2 : Hid (Blk w2 b 129 (accCells ws false)) := (HB.out.alloc _).below hO2.below hbl
  have HO2 : Hid (Below b w w2) := ((below_new (Below.refl _ _) _).trans hO2.below).mono (Nat.le_of_lt hbl)
  clear hb2 hO2 hR hI hL hY
  go_loopw [7, 8, 30] (fun cv j i wr => ∃ (k cc : Nat) (rs : List Nat), i = .int .i64 k ∧ cv = .int .u64 cc ∧ k ≤ 76 ∧ Hid (SubInv ws ys k rs cc) ∧ Hid (Blk wr b 129 (accCells (rs ++ ws.drop k) false)) ∧ Hid (Blk wr w.heap.size 126 (i64s ys)) ∧ Hid (Below b w2 wr)) (fun _ _ i _ => 76 - (intOf i).toNat)
  case atStart => exact ⟨0, 0, [], rfl, rfl, by omega, ⟨rfl, by simp, .inl rfl, by simp [val]⟩, hB2.out, hb2'.out, Below.refl _ _⟩
  case round =>
    obtain ⟨k, cc, rs, rfl, rfl, hk, hI2, hZ2, hV2, hW⟩ := hrel
    have hrl := hI2.out.len
    have hwl := HWS.out.len
    have hyl2 := HYS.out.len
    by_cases hlt : k < 76
    · have hx1 := acc_at hZ2.out (i := k) (by simp; omega)
      rw [acc_drop_at hrl] at hx1
      have hxf := hZ2.out.frozen k
      have hxb := getD_mem_lt HWS.out.bd (i := k) (by omega)
      obtain ⟨y, hy1, _, hyb, hye⟩ := hV2.out.at64 (i := k) (by omega) HYS.out.bd
      obtain ⟨x, hx⟩ : ∃ x, ws.getD k 0 = x := ⟨_, rfl⟩
      rw [hx] at hx1 hxb
      have hi1 : (0 : Int) ≤ (k : Int) := by omega
      have hi2' : (k : Int) < 76 := by omega
      obtain ⟨s, hs⟩ : ∃ s, s = (x + 2 ^ 64 - y - cc) % 2 ^ 64 := ⟨_, rfl⟩
      obtain ⟨b', hb'⟩ : ∃ b', b' = if x < y + cc then 1 else 0 := ⟨_, rfl⟩
      have hrun := fun W => run_sub64 x y cc hI2.out.c1 W
      have hst := SubInv.step hI2.out (by omega) (by omega) hx hye.out hxb hyb
      rw [← hs, ← hb'] at hst hrun
      have HST := Lib.hid hst
      have HSET := Lib.hid (acc_drop_set (ws := ws) (s := s) hrl (by omega))
      have hrun' : ∀ W, (callFunc 81 #[.int .u64 x, .int .u64 y, .int .u64 cc]).run Tryz.prog W = .ok (.value (.tuple #[.int .u64 s, .int .u64 b'])) W := hrun
      have HRL := Lib.hid hrl
      have HWL := Lib.hid hwl
      clear hst hs hb' hx hrun hrl hwl hyl2
      go_wp2
      go_region_with (fail)
      all_goals go_wp2
      all_goals (
       go_roundw
       case rel =>
        have hb := acc_set hZ2.out k s _ rfl (by have := HRL.out; have := HWL.out; simp; omega)
        rw [HSET.out] at hb
        exact ⟨k + 1, _, _, by go_num, rfl, by omega, HST.out, hb, hV2.out.far (p := ⟨b, k, none⟩) (show w.heap.size ≠ b by omega) _, (hW.out.setCell (p := ⟨b, k, none⟩) (Nat.le_refl b) _).drew⟩
       case measure => simp [intOf]; omega)
    · obtain rfl : k = 76 := by omega
      have hZ' := hZ2.out
      rw [List.drop_of_length_le (by omega), List.append_nil] at hZ'
      have HZ' := Lib.hid hZ'
      have HFC := Lib.hid (HF.out _ wr hZ' (hI2.out.words HWS.out HYS.out))
      have HRS := Lib.hid (hI2.out.words HWS.out HYS.out)
      clear hZ' hrl hwl hyl2
      go_wp2_with fail
      refine HFC.out.mono ?_
      rintro e w3 ⟨rfl, hW3⟩
      go_wp2
      go_end0
      exact ⟨rfl, ⟨HC.out, rs, HRS.out, HZ'.out.below' hW3⟩, (HO2.out.trans hW.out).trans (hW3.mono (Nat.le_of_lt HZ'.out.lt))⟩
end Go.Proofs.YtcfejobdgiiihaaGreatDoor
