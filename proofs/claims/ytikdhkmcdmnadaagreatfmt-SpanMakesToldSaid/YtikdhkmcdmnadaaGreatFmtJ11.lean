/- Walks and plain laws of this seat's functions, part 11: F1 F2a. -/
import Derived.Laws.Cover2
import Derived.Test.YtikdhkmcdmnadaaGreatFmtJ10
set_option linter.unusedVariables false
set_option linter.unusedSimpArgs false
namespace Go.Proofs.YtikdhkmcdmnadaaGreatFmt
open Go.RowKit

theorem sw_d : Ieee.double.signWeight = 9223372036854775808 := rfl
theorem bi_d : Ieee.double.binade = 4503599627370496 := rfl
theorem inf_d : Ieee.double.infRung = 9218868437227405312 := rfl
theorem lp_d : Ieee.double.leastPlace = -1074 := rfl
/-- the bits without the sign -/
def uabs (u : Nat) : Nat := u % 9223372036854775808
theorem fneg_read {u : Nat} (hu : u < 18446744073709551616) : (u / 9223372036854775808 % 2 == 1) = fneg u := by
  unfold fneg; rw [Bool.eq_iff_iff]; simp; omega
theorem read_fin {u : Nat} (hu : u < 18446744073709551616) (hf : fin u = true) : Ieee.double.read u = .number (fneg u) (fman u) ((uexp u : Int) - 1075) := by
  have h2 : fexp u ≠ 2047 := by simpa [fin] using hf
  have hl := fexp_lt u
  unfold Ieee.Format.read
  simp only [sw_d, bi_d, inf_d, lp_d, fneg_read hu]
  unfold fman uexp
  have he : fexp u = u / 4503599627370496 % 2048 := rfl
  generalize fexp u = e at *
  by_cases h0 : e = 0
  · rw [if_pos (by omega), if_pos h0]
    have : u % 9223372036854775808 = u % 4503599627370496 := by omega
    rw [this, h0]; rfl
  · rw [if_neg (by omega), if_pos (by omega), if_neg h0]
    have h3 : 4503599627370496 + u % 9223372036854775808 % 4503599627370496 = u % 4503599627370496 + 4503599627370496 := by omega
    have h4 : (-1074 : Int) + ((u % 9223372036854775808 / 4503599627370496 - 1 : Nat) : Int) = ((max e 1 : Nat) : Int) - 1075 := by omega
    rw [h3, h4]
theorem read_bad {u : Nat} (hu : u < 18446744073709551616) (hf : fin u = false) : Ieee.double.read u = if u % 4503599627370496 = 0 then .infinity (fneg u) else .nan (fneg u) (u % 4503599627370496) := by
  have h2 : fexp u = 2047 := by simpa [fin] using hf
  unfold Ieee.Format.read
  simp only [sw_d, bi_d, inf_d, lp_d, fneg_read hu]
  have he : fexp u = u / 4503599627370496 % 2048 := rfl
  rw [if_neg (by omega), if_neg (by omega)]
  by_cases h0 : u % 4503599627370496 = 0
  · rw [if_pos (by omega), if_pos h0]
  · rw [if_neg (by omega), if_neg h0]
    have : u % 9223372036854775808 - 9218868437227405312 = u % 4503599627370496 := by omega
    rw [this]
theorem signed_eq (neg : Bool) (m k : Nat) : Ieee.signed neg m k = sg neg (m * 2 ^ k) := by
  unfold Ieee.signed sg; rw [Nat.shiftLeft_eq]
theorem cmp_mul (a b : Int) (p : Nat) (hp : 0 < p) : compare (a * (p : Int)) (b * (p : Int)) = compare a b := by
  have hp' : (0 : Int) < (p : Int) := by omega
  rcases Int.lt_trichotomy a b with h | h | h
  · rw [Int.compare_eq_lt.2 h, Int.compare_eq_lt.2 (Int.mul_lt_mul_of_pos_right h hp')]
  · subst h; rw [Int.compare_eq_eq.2 rfl, Int.compare_eq_eq.2 rfl]
  · rw [Int.compare_eq_gt.2 h, Int.compare_eq_gt.2 (Int.mul_lt_mul_of_pos_right h hp')]
theorem order_fin {u v : Nat} (hu : u < 18446744073709551616) (hv : v < 18446744073709551616) (hfu : fin u = true) (hfv : fin v = true) : Ieee.double.order u v = some (compare (fv u) (fv v)) := by
  obtain ⟨h1, _⟩ := uexp_lt hfu
  obtain ⟨h2, _⟩ := uexp_lt hfv
  unfold Ieee.Format.order
  rw [read_fin hu hfu, read_fin hv hfv]
  simp only [Ieee.Datum.order, signed_eq]
  congr 1
  obtain ⟨b, hb⟩ : ∃ b : Nat, min (uexp u) (uexp v) = b := ⟨_, rfl⟩
  have e1 : ((uexp u : Int) - 1075 - min ((uexp u : Int) - 1075) ((uexp v : Int) - 1075)).toNat = uexp u - b := by omega
  have e2 : ((uexp v : Int) - 1075 - min ((uexp u : Int) - 1075) ((uexp v : Int) - 1075)).toNat = uexp v - b := by omega
  rw [e1, e2, ← cmp_mul _ _ (2 ^ (b - 1)) (Nat.pow_pos (by decide)), fv_eq, fv_eq, sg_pow, sg_pow, Nat.mul_assoc, Nat.mul_assoc, ← Nat.pow_add, ← Nat.pow_add,
    show uexp u - b + (b - 1) = uexp u - 1 from by omega, show uexp v - b + (b - 1) = uexp v - 1 from by omega]
theorem order_self {u : Nat} (hu : u < 18446744073709551616) : (Ieee.double.order u u != some .eq) = (!fin u && decide (u % 4503599627370496 ≠ 0)) := by
  by_cases hf : fin u = true
  · rw [order_fin hu hu hf hf, Int.compare_eq_eq.2 rfl, hf]; rfl
  · have hf' : fin u = false := by simpa using hf
    unfold Ieee.Format.order
    rw [read_bad hu hf', hf']
    split
    · rename_i h; simp only [Ieee.Datum.order]
      have : compare (fneg u).toNat (fneg u).toNat = .eq := by rw [Nat.compare_eq_eq]
      rw [this]; simp [h]
    · rename_i h; simp [Ieee.Datum.order, h]
theorem fin_abs (u : Nat) : fin (uabs u) = fin u := by
  unfold fin fexp uabs; congr 2; omega
theorem uabs_lt (u : Nat) : uabs u < 9223372036854775808 := Nat.mod_lt _ (by decide)
theorem fv_abs (u : Nat) : fv (uabs u) = ((fv u).natAbs : Int) := by
  have h1 : fneg (uabs u) = false := by unfold fneg; have := uabs_lt u; simp; omega
  have h2 : fman (uabs u) = fman u := by
    have : fexp (uabs u) = fexp u := by unfold fexp uabs; omega
    unfold fman; rw [this]
    have : uabs u % 4503599627370496 = u % 4503599627370496 := by unfold uabs; omega
    rw [this]
  have h3 : uexp (uabs u) = uexp u := by
    have : fexp (uabs u) = fexp u := by unfold fexp uabs; omega
    unfold uexp; rw [this]
  rw [fv_eq, fv_eq, h1, h2, h3, sg_abs]; rfl
def fMax : Nat := 9007199254740991 * 2 ^ 2045
theorem sg_false (n : Nat) : sg false n = (n : Int) := rfl
theorem max_fin : fin 9218868437227405311 = true := by decide
theorem fv_max : fv 9218868437227405311 = (fMax : Int) := by
  have h1 : fneg 9218868437227405311 = false := by decide
  have h2 : fman 9218868437227405311 = 9007199254740991 := by decide
  have h3 : uexp 9218868437227405311 = 2046 := by decide
  rw [fv_eq, h1, h2, h3, sg_false]; unfold fMax; rw [show 2046 - 1 = 2045 from rfl]
set_option exponentiation.threshold 6000 in
theorem fv_le_max {u : Nat} (hf : fin u = true) : (fv u).natAbs ≤ fMax := by
  unfold fMax
  rw [fv_eq, sg_abs]
  have h1 := fman_lt u
  have h2 := (uexp_lt hf).2
  exact Nat.mul_le_mul (by omega) (Nat.pow_le_pow_right (by decide) (by omega))
theorem read_max : ∃ s m e, Ieee.double.read 9218868437227405311 = .number s m e := ⟨_, _, _, read_fin (by decide) max_fin⟩
theorem cmp_not_gt {a b : Int} (h : a ≤ b) : (some (compare a b) == some Ordering.gt) = false := by
  have h : compare a b ≠ .gt := by rw [Ne, Int.compare_eq_gt]; omega
  cases hc : compare a b
  · rfl
  · rfl
  · exact absurd hc h
theorem order_max {u : Nat} (hu : u < 18446744073709551616) : (Ieee.double.order (uabs u) 9218868437227405311 == some .gt) = (!fin u && decide (u % 4503599627370496 = 0)) := by
  have hul := uabs_lt u
  by_cases hf : fin u = true
  · rw [order_fin (by omega) (by decide) (by rw [fin_abs]; exact hf) max_fin, hf, fv_max, fv_abs]
    have := fv_le_max hf
    rw [cmp_not_gt (by omega)]; rfl
  · have hf' : fin u = false := by simpa using hf
    unfold Ieee.Format.order
    obtain ⟨s, m, e0, hm⟩ := read_max
    rw [read_bad (by omega) (by rw [fin_abs]; exact hf'), hm, hf']
    have e : uabs u % 4503599627370496 = u % 4503599627370496 := by unfold uabs; omega
    have e2 : fneg (uabs u) = false := by unfold fneg; simp; omega
    rw [e, e2]
    split
    · rename_i h; simp [Ieee.Datum.order, h]
    · rename_i h; simp [Ieee.Datum.order, h]
/-- the bits with the sign turned -/
def uneg (u : Nat) : Nat := u ^^^ 9223372036854775808
theorem uneg_abs (u : Nat) : uneg (uabs u) = uabs u + 9223372036854775808 := by
  unfold uneg
  have h := uabs_lt u
  have : uabs u ^^^ 9223372036854775808 = uabs u ||| 9223372036854775808 := by
    rw [show (9223372036854775808 : Nat) = 2 ^ 63 from by decide] at *
    apply Nat.eq_of_testBit_eq
    intro i
    rw [Nat.testBit_xor, Nat.testBit_or]
    by_cases hi : i = 63
    · subst hi; rw [Nat.testBit_lt_two_pow h]; simp
    · rw [Nat.testBit_two_pow_of_ne (by omega)]; simp
  rw [this, or_add_low (r := 63) h (by decide)]
theorem fin_neg_abs {u : Nat} : fin (uneg (uabs u)) = fin u := by
  rw [uneg_abs]; unfold fin fexp uabs; congr 2; omega
theorem fv_neg_abs (u : Nat) : fv (uneg (uabs u)) = -((fv u).natAbs : Int) := by
  rw [uneg_abs, ← fv_abs]
  have h := uabs_lt u
  generalize uabs u = v at *
  have h1 : fneg (v + 9223372036854775808) = true := by unfold fneg; simp; omega
  have h1' : fneg v = false := by unfold fneg; simp; omega
  have h0 : fexp (v + 9223372036854775808) = fexp v := by unfold fexp; omega
  have h2 : fman (v + 9223372036854775808) = fman v := by
    unfold fman; rw [h0]
    have : (v + 9223372036854775808) % 4503599627370496 = v % 4503599627370496 := by omega
    rw [this]
  have h3 : uexp (v + 9223372036854775808) = uexp v := by unfold uexp; rw [h0]
  rw [fv_eq, fv_eq, h1, h1', h2, h3]; rfl
theorem and_abs {u : Nat} (hu : u < 18446744073709551616) : bits .andNot .u64 (u : Int) 9223372036854775808 = (uabs u : Nat) := by
  rw [show (9223372036854775808 : Int) = ((9223372036854775808 : Nat) : Int) from rfl, u64_andNot_nat _ _ hu (by decide), show 18446744073709551615 - 9223372036854775808 = 2 ^ 63 - 1 from by decide, Nat.and_two_pow_sub_one_eq_mod]
  rfl
end Go.Proofs.YtikdhkmcdmnadaaGreatFmt

namespace Go.Proofs.YtikdhkmcdmnadaaGreatFmt
open Go.RowKit

set_option maxHeartbeats 1000000 in
theorem isnan_calls (u : Nat) (r : Bool) (w : World) (hr : (FloatKind.f64.format.order u u != some .eq) = r) :
    Calls Tryz.prog 30 #[.float .f64 u] w fun e w' => e = .returned (.bool r) ∧ w = w' := by
  go_enter Tryz.func30, Tryz.ntmps30
  go_wp2
  go_ret
  exact ⟨rfl, rfl⟩
set_option maxHeartbeats 1000000 in
theorem abs_calls (u : Nat) (w : World) (hu : u < 18446744073709551616) :
    Calls Tryz.prog 51 #[.float .f64 u] w fun e w' => e = .returned (.float .f64 (uabs u)) ∧ w = w' := by
  have h := and_abs hu
  clear hu
  go_enter Tryz.func51, Tryz.ntmps51
  go_wp2
  go_ret
  exact ⟨rfl, rfl⟩
set_option maxHeartbeats 1000000 in
theorem isinf_calls (u : Nat) (r : Bool) (w : World) (hu : u < 18446744073709551616) (hr : (FloatKind.f64.format.order (uabs u) 9218868437227405311 == some .gt) = r) :
    Calls Tryz.prog 31 #[.float .f64 u, .int .i64 0] w fun e w' => e = .returned (.bool r) ∧ w = w' := by
  have HA := Lib.hid (abs_calls u w hu)
  clear hu
  go_enter Tryz.func31, Tryz.ntmps31
  go_wp2_with fail
  refine HA.out.mono ?_
  rintro e w' ⟨rfl, rfl⟩
  go_wp2
  go_ret
  exact ⟨rfl, rfl⟩
set_option maxHeartbeats 1000000 in
theorem number?_calls (u : Nat) (r : Bool) (w : World) (hu : u < 18446744073709551616) (hr : fin u = r) :
    Calls Tryz.prog 21 #[.float .f64 u] w fun e w' => e = .returned (.bool r) ∧ w = w' := by
  have h1 := order_self hu
  have h2 := order_max hu
  by_cases hf : fin u = true
  · rw [hf] at h1 h2 hr
    simp only [Bool.not_true, Bool.false_and] at h1 h2
    have HN := Lib.hid (isnan_calls u _ w h1)
    have HI := Lib.hid (isinf_calls u _ w hu h2)
    subst hr
    clear h1 h2 hf hu
    go_enter Tryz.func21, Tryz.ntmps21
    go_wp2_with fail
    refine HN.out.mono ?_
    rintro e w' ⟨rfl, rfl⟩
    go_wp2_with fail
    refine HI.out.mono ?_
    rintro e w' ⟨rfl, rfl⟩
    go_wp2
    go_ret
    exact ⟨rfl, rfl⟩
  · have hf' : fin u = false := by simpa using hf
    rw [hf'] at h1 h2 hr
    simp only [Bool.not_false, Bool.true_and] at h1 h2
    subst hr
    by_cases h0 : u % 4503599627370496 = 0
    · rw [decide_eq_false (by simpa using h0)] at h1
      rw [decide_eq_true h0] at h2
      have HN := Lib.hid (isnan_calls u _ w h1)
      have HI := Lib.hid (isinf_calls u _ w hu h2)
      clear h1 h2 hf hf' hu h0
      go_enter Tryz.func21, Tryz.ntmps21
      go_wp2_with fail
      refine HN.out.mono ?_
      rintro e w' ⟨rfl, rfl⟩
      go_wp2_with fail
      refine HI.out.mono ?_
      rintro e w' ⟨rfl, rfl⟩
      go_wp2
      go_ret
      exact ⟨rfl, rfl⟩
    · rw [decide_eq_true (by simpa using h0)] at h1
      have HN := Lib.hid (isnan_calls u _ w h1)
      clear h1 h2 hf hf' hu h0
      go_enter Tryz.func21, Tryz.ntmps21
      go_wp2_with fail
      refine HN.out.mono ?_
      rintro e w' ⟨rfl, rfl⟩
      go_wp2
      go_ret
      exact ⟨rfl, rfl⟩
/-! lists of numbers -/
def f64 : Rd Nat := Rd.scalar (fun x => .float .f64 x) (· < 18446744073709551616) (fun _ => rfl)
theorem f64at {t : Nat} {w : World} {base : Nat} {A : Option Addr} {xs : List Nat} (h : f64.Row t w base A xs) {i : Nat} (hi : i < xs.length) :
    ∃ (a : Addr) (x : Nat), A = some a ∧ w.cell? (a.add i) = some (.float .f64 x) ∧ x < 18446744073709551616 ∧ Hid (xs.getD i 0 = x) := by
  obtain ⟨a, x, h1, h2, h3, h4⟩ := Rd.Row.get h hi
  exact ⟨a, x, h1, h2, h3, by have := h4.out; simp [Hid, this]⟩
theorem f64bd {t : Nat} {w : World} {base : Nat} {A : Option Addr} {xs : List Nat} (h : f64.Row t w base A xs) : ∀ d ∈ xs, d < B64 := by
  intro d hd
  obtain ⟨i, hi, rfl⟩ := List.getElem_of_mem hd
  obtain ⟨_, cs, _, _, _, hr, _⟩ := h i _ (List.getElem?_eq_getElem hi)
  exact hr.2
theorem all_take_step {p : Nat → Bool} {xs : List Nat} {k x : Nat} (hk : k < xs.length) (hx : xs.getD k 0 = x) : (xs.take (k + 1)).all p = ((xs.take k).all p && p x) := by
  rw [take_snoc' hk, List.all_append, hx]; simp
theorem all_take_false {p : Nat → Bool} {xs : List Nat} {k x : Nat} (hk : k < xs.length) (hx : xs.getD k 0 = x) (hp : p x = false) : xs.all p = false := by
  rw [Bool.eq_false_iff]
  intro h
  rw [List.all_eq_true] at h
  have := h x (by rw [← hx, List.getD_eq_getElem?_getD, List.getElem?_eq_getElem hk, Option.getD_some]; exact List.getElem_mem hk)
  rw [hp] at this; cases this
end Go.Proofs.YtikdhkmcdmnadaaGreatFmt
