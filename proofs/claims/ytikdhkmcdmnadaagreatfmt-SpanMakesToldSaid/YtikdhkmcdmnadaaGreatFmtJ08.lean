/- Walks and plain laws of this seat's functions, part 8: R3a R3b. -/
import Derived.Test.YtikdhkmcdmnadaaGreatFmtJ07
set_option linter.unusedVariables false
set_option linter.unusedSimpArgs false
namespace Go.Proofs.YtikdhkmcdmnadaaGreatFmt
open Go.RowKit

/-! ### rounding in every direction (0 near, 1 up, 2 down), by rungs: the bits without the sign -/
abbrev INFR : Nat := 9218868437227405312
abbrev MAXB : Nat := 9218868437227405311
def sgnR (neg : Bool) (r : Nat) : Nat := if neg && decide (0 < r) then r + 9223372036854775808 else r
/-- one more than the rung below it: of h halves of a rung (and a rest) -/
def moreH (d : Int) (neg rest : Bool) (h : Nat) : Bool :=
  (decide (d = 0) && decide (h % 2 = 1) && (rest || decide (h / 2 % 2 = 1))) || (((decide (d = 1) && !neg) || (decide (d = 2) && neg)) && (decide (h % 2 = 1) || rest))
def outR (d : Int) (neg more : Bool) (r : Nat) : Option Nat :=
  if INFR ≤ r then (if decide (d = 0) || more || (decide (d = 1) != neg) then none else some (sgnR neg MAXB)) else some (sgnR neg r)
def toldR (d : Int) (neg : Bool) (h : Nat) (rest : Bool) (e : Int) : Option Nat :=
  outR d neg (moreH d neg rest h) ((e + 1074).toNat * 4503599627370496 + h / 2 + (moreH d neg rest h).toNat)
theorem outR_fin {d : Int} {neg more : Bool} {r : Nat} (h : r < INFR) : outR d neg more r = some (sgnR neg r) := by unfold outR; rw [if_neg (by omega)]
theorem outR_none {d : Int} {neg more : Bool} {r : Nat} (h : INFR ≤ r) (h2 : (decide (d = 0) || more || (decide (d = 1) != neg)) = true) : outR d neg more r = none := by unfold outR; rw [if_pos h, if_pos h2]
theorem outR_max {d : Int} {neg more : Bool} {r : Nat} (h : INFR ≤ r) (h2 : (decide (d = 0) || more || (decide (d = 1) != neg)) = false) : outR d neg more r = some (sgnR neg MAXB) := by unfold outR; rw [if_pos h, if_neg (by rw [h2]; simp)]
theorem sgnR_false (r : Nat) : sgnR false r = r := rfl
theorem sgnR_pos {r : Nat} (h : 0 < r) : sgnR true r = r + 9223372036854775808 := by unfold sgnR; simp [h]
theorem sgnR_zero (neg : Bool) : sgnR neg 0 = 0 := by cases neg <;> rfl
theorem wrap_cast (e : Int) (h1 : -1075 ≤ e) (h2 : e ≤ 971) : IntKind.u64.wrap (e + 1075) = e + 1075 := by simp [IntKind.wrap, IntKind.bits, IntKind.signed]; omega
set_option maxHeartbeats 8000000 in
set_option maxRecDepth 100000 in
theorem told_all (d : Int) (hd : 0 ≤ d ∧ d ≤ 2) (neg rest : Bool) (h : Nat) (e : Int) (w : World) (hh : h < 18014398509481984) (hn : 9007199254740992 ≤ h ∨ e = -1074) (he : -1074 ≤ e) (he2 : e ≤ 1099511627776) :
    Calls Tryz.prog 38 #[.int .i64 d, .bool neg, .int .u64 (h : Nat), .bool rest, .int .i64 e] w fun r w' => r = optRet (toldR d neg h rest e) ∧ w = w' := by
  obtain ⟨q, hq⟩ : ∃ q, h / 2 = q := ⟨_, rfl⟩
  obtain ⟨m, hm⟩ : ∃ m, moreH d neg rest h = m := ⟨_, rfl⟩
  have HT : Hid (toldR d neg h rest e = outR d neg m ((e + 1074).toNat * 4503599627370496 + q + m.toNat)) := by unfold toldR; rw [hm, hq]; rfl
  have h2 : (h : Int) / 2 = (q : Int) := by omega
  have hqb : q < 9007199254740992 := by omega
  have HM := Lib.hid hm
  have HQ := Lib.hid hq
  have HN : Hid (4503599627370496 ≤ q ∨ e = -1074) := by rcases hn with h | h; exact .inl (by omega); exact .inr h
  obtain ⟨hf, hhf⟩ : ∃ b, (bits BinOp.and .u64 (h : Int) 1 == 1) = b := ⟨_, rfl⟩
  have HF : Hid (decide (h % 2 = 1) = hf) := by
    rw [Hid, ← hhf, bits_lsb (h := h) (by omega)]
    rcases Nat.mod_two_eq_zero_or_one h with h0 | h0 <;> rw [h0] <;> rfl
  clear hn
  go_enter Tryz.func38, Tryz.ntmps38
  go_upto_region 3 with fail
  go_cut [14] (fun s wx => s = .bool m ∧ wx = w)
  case first =>
    have b2 := bits_lsb (h := q) (by omega)
    have hm' := HM.out
    rw [moreH, HQ.out, HF.out] at hm'
    obtain ⟨y, hy⟩ : ∃ y, q % 2 = y := ⟨_, rfl⟩
    have hy2 : y < 2 := by omega
    rw [hy] at b2
    rw [hy] at hm'
    clear hh hq hm hqb he he2 hy h2 hhf HF HM HQ HN HT
    obtain rfl | rfl | rfl : d = 0 ∨ d = 1 ∨ d = 2 := by omega
    all_goals (
      obtain rfl | rfl : y = 0 ∨ y = 1 := by omega
      all_goals (
        cases neg <;> cases rest <;> cases hf
        all_goals (
          subst hm'
          go_wp2
          go_meet
          exact ⟨rfl, rfl⟩)))
  case rest =>
    obtain ⟨rfl, rfl⟩ := hcut
    clear hhf HF HM HQ hm hq h2 hh
    have hcl : ∀ o : Option Nat, toldR d neg h rest e = o → toldR d neg h rest e = o := fun _ h => h
    clear hcl
    by_cases hA : q + m.toNat = 9007199254740992
    · have hmt : m = true := by cases m; simp at hA; omega; rfl
      subst hmt
      obtain rfl : q = 9007199254740991 := by simp at hA; omega
      by_cases hE : 971 < e + 1
      · have HR : Hid (toldR d neg h rest e = none) := by
          rw [Hid, HT.out]; exact outR_none (by simp [INFR]; omega) (by simp)
        clear hA HT
        obtain rfl | rfl | rfl : d = 0 ∨ d = 1 ∨ d = 2 := by omega
        all_goals (
          cases neg
          all_goals (
            go_wp2
            go_ret2
            exact ⟨ret_none HR.out, rfl⟩))
      · obtain ⟨P, hP⟩ : ∃ P, P = (e + 1 + 1075).toNat * 4503599627370496 := ⟨_, rfl⟩
        have HR : Hid (toldR d neg h rest e = some (sgnR neg P)) := by
          rw [Hid, HT.out, outR_fin (by simp [INFR]; omega)]; congr 2; simp; omega
        have ho := bits_pack (e := e + 1 + 1075) (q := 0) (by omega) (by omega) (by decide)
        simp only [Int.natCast_zero, Nat.add_zero] at ho
        rw [← hP] at ho
        have hP0 : 0 < P := by omega
        have hPb : P < 9223372036854775808 := by omega
        have hk : bits BinOp.and IntKind.u64 4503599627370496 4503599627370495 = 0 := by decide
        clear hP hA HT HN
        cases neg
        · rw [sgnR_false] at HR
          go_wp2
          go_ret2
          exact ⟨ret_opt HR.out rfl, rfl⟩
        · rw [sgnR_pos hP0] at HR
          go_wp2
          go_ret2
          exact ⟨ret_opt HR.out (bits_top' hPb rfl), rfl⟩
    · cases m
      · simp only [Bool.toNat_false, Nat.add_zero] at hA HT
        have HNZ := HN.out
        have hA' : ((q : Int) == 9007199254740992) = false := by simp; omega
        have hZ1 : q < 9007199254740992 := by omega
        clear HN
        by_cases hE : 971 < e
        · have hb : INFR ≤ (e + 1074).toNat * 4503599627370496 + q := by simp [INFR]; omega
          have hZ2 : (4503599627370496 : Int) ≤ (q : Int) := by omega
          have hk : bits BinOp.or .u64 9218868437227405311 9223372036854775808 = 18442240474082181119 := by decide
          clear HNZ hA
          obtain rfl | rfl | rfl : d = 0 ∨ d = 1 ∨ d = 2 := by omega
          · cases neg
            · have HR : Hid (toldR 0 false h rest e = none) := by rw [Hid, HT.out]; exact outR_none hb (by decide)
              clear HT hb
              go_wp2
              go_ret2
              exact ⟨ret_none HR.out, rfl⟩
            · have HR : Hid (toldR 0 true h rest e = none) := by rw [Hid, HT.out]; exact outR_none hb (by decide)
              clear HT hb
              go_wp2
              go_ret2
              exact ⟨ret_none HR.out, rfl⟩
          · cases neg
            · have HR : Hid (toldR 1 false h rest e = none) := by rw [Hid, HT.out]; exact outR_none hb (by decide)
              clear HT hb
              go_wp2
              go_ret2
              exact ⟨ret_none HR.out, rfl⟩
            · have HR : Hid (toldR 1 true h rest e = some (sgnR true MAXB)) := by rw [Hid, HT.out]; exact outR_max hb (by decide)
              clear HT hb
              go_wp2
              go_ret2
              exact ⟨ret_opt HR.out rfl, rfl⟩
          · cases neg
            · have HR : Hid (toldR 2 false h rest e = some (sgnR false MAXB)) := by rw [Hid, HT.out]; exact outR_max hb (by decide)
              clear HT hb
              go_wp2
              go_ret2
              exact ⟨ret_opt HR.out rfl, rfl⟩
            · have HR : Hid (toldR 2 true h rest e = none) := by rw [Hid, HT.out]; exact outR_none hb (by decide)
              clear HT hb
              go_wp2
              go_ret2
              exact ⟨ret_none HR.out, rfl⟩
        · by_cases hN : 4503599627370496 ≤ q
          · obtain ⟨P, hP⟩ : ∃ P, P = (e + 1075).toNat * 4503599627370496 + (q - 4503599627370496) := ⟨_, rfl⟩
            have HR : Hid (toldR d neg h rest e = some (sgnR neg P)) := by rw [Hid, HT.out, outR_fin (by simp [INFR]; omega)]; congr 2; omega
            have hm := bits_fmask hN hZ1
            have ho := bits_pack (e := e + 1075) (q := q - 4503599627370496) (by omega) (by omega) (by omega)
            try simp only [Int.natCast_add, Int.cast_ofNat_Int] at hm
            rw [← hm, ← hP] at ho
            have hP0 : 0 < P := by omega
            have hPb : P < 9223372036854775808 := by omega
            clear hP hm HT HNZ hA
            cases neg
            · rw [sgnR_false] at HR
              go_wp2
              go_ret2
              exact ⟨ret_opt HR.out rfl, rfl⟩
            · rw [sgnR_pos hP0] at HR
              go_wp2
              go_ret2
              exact ⟨ret_opt HR.out (bits_top' hPb rfl), rfl⟩
          · have HR : Hid (toldR d neg h rest e = some (sgnR neg q)) := by rw [Hid, HT.out, outR_fin (by simp [INFR]; omega)]; congr 2; omega
            clear HT HNZ hA
            have hN' : ¬ (4503599627370496 : Int) ≤ (q : Int) := by omega
            cases neg
            · rw [sgnR_false] at HR
              go_wp2
              go_ret2
              exact ⟨ret_opt HR.out rfl, rfl⟩
            · by_cases h0 : q = 0
              · subst h0
                rw [sgnR_zero] at HR
                go_wp2
                go_ret2
                exact ⟨ret_opt HR.out rfl, rfl⟩
              · have hq0 : 0 < q := by omega
                have hqp : (0 : Int) < (q : Int) := by omega
                rw [sgnR_pos hq0] at HR
                go_wp2
                go_ret2
                exact ⟨ret_opt HR.out (bits_top' (by omega) rfl), rfl⟩
      · obtain ⟨Z, hZ⟩ : ∃ Z, q + 1 = Z := ⟨_, rfl⟩
        simp only [Bool.toNat_true, Nat.add_assoc] at hA HT
        rw [hZ] at hA HT
        have hZi : (q : Int) + 1 = (Z : Int) := by omega
        have HNZ : 4503599627370496 ≤ Z ∨ e = -1074 := by rcases HN.out with h | h; exact .inl (by omega); exact .inr h
        have hZ0 : 0 < Z := by omega
        have hA' : ((Z : Int) == 9007199254740992) = false := by simp; omega
        have hZ1 : Z < 9007199254740992 := by omega
        clear hZ HN
        by_cases hE : 971 < e
        · have hb : INFR ≤ (e + 1074).toNat * 4503599627370496 + Z := by simp [INFR]; omega
          have hZ2 : (4503599627370496 : Int) ≤ (Z : Int) := by omega
          have hk : bits BinOp.or .u64 9218868437227405311 9223372036854775808 = 18442240474082181119 := by decide
          clear HNZ hA
          obtain rfl | rfl | rfl : d = 0 ∨ d = 1 ∨ d = 2 := by omega
          · cases neg
            · have HR : Hid (toldR 0 false h rest e = none) := by rw [Hid, HT.out]; exact outR_none hb (by decide)
              clear HT hb
              go_wp2
              go_ret2
              exact ⟨ret_none HR.out, rfl⟩
            · have HR : Hid (toldR 0 true h rest e = none) := by rw [Hid, HT.out]; exact outR_none hb (by decide)
              clear HT hb
              go_wp2
              go_ret2
              exact ⟨ret_none HR.out, rfl⟩
          · cases neg
            · have HR : Hid (toldR 1 false h rest e = none) := by rw [Hid, HT.out]; exact outR_none hb (by decide)
              clear HT hb
              go_wp2
              go_ret2
              exact ⟨ret_none HR.out, rfl⟩
            · have HR : Hid (toldR 1 true h rest e = none) := by rw [Hid, HT.out]; exact outR_none hb (by decide)
              clear HT hb
              go_wp2
              go_ret2
              exact ⟨ret_none HR.out, rfl⟩
          · cases neg
            · have HR : Hid (toldR 2 false h rest e = none) := by rw [Hid, HT.out]; exact outR_none hb (by decide)
              clear HT hb
              go_wp2
              go_ret2
              exact ⟨ret_none HR.out, rfl⟩
            · have HR : Hid (toldR 2 true h rest e = none) := by rw [Hid, HT.out]; exact outR_none hb (by decide)
              clear HT hb
              go_wp2
              go_ret2
              exact ⟨ret_none HR.out, rfl⟩
        · by_cases hN : 4503599627370496 ≤ Z
          · obtain ⟨P, hP⟩ : ∃ P, P = (e + 1075).toNat * 4503599627370496 + (Z - 4503599627370496) := ⟨_, rfl⟩
            have HR : Hid (toldR d neg h rest e = some (sgnR neg P)) := by rw [Hid, HT.out, outR_fin (by simp [INFR]; omega)]; congr 2; omega
            have hm := bits_fmask hN hZ1
            have ho := bits_pack (e := e + 1075) (q := Z - 4503599627370496) (by omega) (by omega) (by omega)
            try simp only [Int.natCast_add, Int.cast_ofNat_Int] at hm
            rw [← hm, ← hP] at ho
            have hP0 : 0 < P := by omega
            have hPb : P < 9223372036854775808 := by omega
            clear hP hm HT HNZ hA
            cases neg
            · rw [sgnR_false] at HR
              go_wp2
              go_ret2
              exact ⟨ret_opt HR.out rfl, rfl⟩
            · rw [sgnR_pos hP0] at HR
              go_wp2
              go_ret2
              exact ⟨ret_opt HR.out (bits_top' hPb rfl), rfl⟩
          · have HR : Hid (toldR d neg h rest e = some (sgnR neg Z)) := by rw [Hid, HT.out, outR_fin (by simp [INFR]; omega)]; congr 2; omega
            clear HT HNZ hA
            have hN' : ¬ (4503599627370496 : Int) ≤ (Z : Int) := by omega
            cases neg
            · rw [sgnR_false] at HR
              go_wp2
              go_ret2
              exact ⟨ret_opt HR.out rfl, rfl⟩
            · rw [sgnR_pos hZ0] at HR
              have hZp : (0 : Int) < (Z : Int) := by omega
              go_wp2
              go_ret2
              exact ⟨ret_opt HR.out (bits_top' (by omega) rfl), rfl⟩
end Go.Proofs.YtikdhkmcdmnadaaGreatFmt

namespace Go.Proofs.YtikdhkmcdmnadaaGreatFmt
open Go.RowKit

/-! ### Round in every direction, of X parts of 2^-K -/
def rndS (d : Int) (K : Nat) (X : Int) : Option Nat :=
  toldR d (decide (X < 0)) (X.natAbs / 2 ^ (shD K X.natAbs - 1)) (restB (X.natAbs % 2 ^ (shD K X.natAbs - 1))) ((shD K X.natAbs : Int) - K)
theorem shD_zero {K : Nat} : shD K 0 = K - 1074 := by unfold shD; rw [bl_zero]; omega
theorem rndS_zero (d : Int) (K : Nat) (hK : 1074 < K) : rndS d K 0 = some 0 := by
  unfold rndS
  rw [Int.natAbs_zero, shD_zero, Nat.zero_div, Nat.zero_mod]
  have e : (((K - 1074 : Nat) : Int) - K + 1074).toNat = 0 := by omega
  have hm : moreH d (decide ((0 : Int) < 0)) (restB 0) 0 = false := by simp [moreH, restB]
  unfold toldR
  rw [hm, e, outR_fin (by decide)]
  rfl
theorem rnd_half {K n : Nat} (hn : n ≠ 0) (hK : 1074 < K) : n / 2 ^ (shD K n - 1) < 18014398509481984 ∧ (9007199254740992 ≤ n / 2 ^ (shD K n - 1) ∨ (shD K n : Int) - K = -1074) := by
  have hk1 : 1 ≤ shD K n := by unfold shD; omega
  have hp : 0 < 2 ^ (shD K n - 1) := Nat.pow_pos (by decide)
  constructor
  · have hb : bl n ≤ shD K n + 53 := by unfold shD; omega
    have hl := bl_lt n
    have : 2 ^ bl n ≤ 2 ^ (shD K n - 1) * 18014398509481984 := by
      rw [show (18014398509481984 : Nat) = 2 ^ 54 from by decide, ← Nat.pow_add]
      exact Nat.pow_le_pow_right (by decide) (by omega)
    rw [Nat.div_lt_iff_lt_mul hp, Nat.mul_comm]
    omega
  · by_cases h : shD K n = K - 1074
    · right; omega
    · left
      have hs : shD K n = bl n - 53 ∧ K - 1074 < bl n - 53 := by unfold shD at h ⊢; omega
      have hl := bl_le hn
      have : 9007199254740992 * 2 ^ (shD K n - 1) ≤ 2 ^ (bl n - 1) := by
        rw [show (9007199254740992 : Nat) = 2 ^ 53 from by decide, ← Nat.pow_add]
        exact Nat.pow_le_pow_right (by decide) (by omega)
      rw [Nat.le_div_iff_mul_le hp]
      omega
theorem rnd_spec {d : Int} {K m k0 : Nat} {neg : Bool} (hm : m ≠ 0) (hK : 1074 < K) {h : Nat} {rest : Bool} {k : Nat} (hk : k = shD K (m * 2 ^ k0)) (hh : h = m * 2 ^ k0 / 2 ^ (k - 1)) (hr : rest = restB (m * 2 ^ k0 % 2 ^ (k - 1))) :
    rndS d K (sg neg (m * 2 ^ k0)) = toldR d neg h rest ((k : Int) - K) ∧ h < 18014398509481984 ∧ (9007199254740992 ≤ h ∨ (k : Int) - K = -1074) := by
  have hn : 0 < m * 2 ^ k0 := Nat.mul_pos (by omega) (Nat.pow_pos (by decide))
  subst hk hh hr
  obtain ⟨h1, h2⟩ := rnd_half (K := K) (n := m * 2 ^ k0) (by omega) hK
  refine ⟨?_, h1, h2⟩
  unfold rndS
  rw [sg_abs]
  have e : decide (sg neg (m * 2 ^ k0) < 0) = neg := by
    generalize m * 2 ^ k0 = n at hn
    cases neg <;> simp [sg] <;> omega
  rw [e]
/-- the scale does not matter -/
theorem rndS_scale (d : Int) {K : Nat} (hK : 1074 < K) (J : Nat) (X : Int) : rndS d (K + J) (X * ((2 ^ J : Nat) : Int)) = rndS d K X := by
  by_cases h0 : X = 0
  · subst h0; rw [Int.zero_mul, rndS_zero d _ (by omega), rndS_zero d _ hK]
  · have hn : X.natAbs ≠ 0 := by omega
    have hp : 0 < 2 ^ J := Nat.pow_pos (by decide)
    have e1 : (X * ((2 ^ J : Nat) : Int)).natAbs = X.natAbs * 2 ^ J := by rw [Int.natAbs_mul, Int.natAbs_natCast]
    have e2 : decide (X * ((2 ^ J : Nat) : Int) < 0) = decide (X < 0) := by
      rw [Bool.eq_iff_iff, decide_eq_true_eq, decide_eq_true_eq]
      have hp' : (0 : Int) < ((2 ^ J : Nat) : Int) := by omega
      constructor
      · intro h
        rcases Int.lt_or_le X 0 with h1 | h1
        · exact h1
        · have := Int.mul_nonneg h1 (Int.le_of_lt hp'); omega
      · exact fun h => Int.mul_neg_of_neg_of_pos h hp'
    have e3 : shD (K + J) (X.natAbs * 2 ^ J) = shD K X.natAbs + J := by unfold shD; rw [bl_mul_pow hn]; omega
    have hs1 : 1 ≤ shD K X.natAbs := by unfold shD; omega
    have e4 : 2 ^ (shD K X.natAbs + J - 1) = 2 ^ (shD K X.natAbs - 1) * 2 ^ J := by rw [← Nat.pow_add]; congr 1; omega
    unfold rndS
    rw [e1, e2, e3, e4, Nat.mul_div_mul_right _ _ hp, Nat.mul_mod_mul_right]
    have e5 : restB (X.natAbs % 2 ^ (shD K X.natAbs - 1) * 2 ^ J) = restB (X.natAbs % 2 ^ (shD K X.natAbs - 1)) := by
      unfold restB; congr 1; rw [ne_eq, ne_eq, Nat.mul_eq_zero]; simp only [Nat.ne_of_gt hp, or_false]
    rw [e5]
    congr 1
    omega
set_option maxHeartbeats 1000000 in
theorem roundd_zero (d : Int) (hd : 0 ≤ d ∧ d ≤ 2) (K base : Nat) (hK : 1074 < K) (cs : List Value) (w : World) (h : (numRd K).R w base 0 cs) :
    Calls Tryz.prog 24 #[.int .i64 d, .agg cs.toArray] w fun r w' => r = optRet (rndS d K 0) ∧ Below w.heap.size w w' := by
  rw [rndS_zero d K hK]
  obtain ⟨neg, m, e, v, rfl, ⟨xs, A, c, hv, hc, hr, ht, hval⟩, he, heb, hX⟩ := h
  cases hv
  have hm : m = 0 := sg_eq_zero hX.symm
  have hz := (ht.nil_iff (B := B32) (by decide)).2 (by rw [hval]; exact hm)
  have h0 : ((xs.length : Int) == 0) = true := by simp; exact List.length_eq_zero_iff.1 hz
  have hd1 : ¬ d < 0 := by omega
  have hd2 : ¬ 2 < d := by omega
  clear hz hval ht hr hm he hX hd
  go_enter Tryz.func24, Tryz.ntmps24
  go_wp2
  go_ret2
  exact ⟨rfl, below_new (Below.refl _ _) _⟩
set_option maxHeartbeats 1000000 in
theorem roundd_out (d : Int) (hd : d < 0 ∨ 2 < d) (K base : Nat) (X : Int) (cs : List Value) (w : World) (h : (numRd K).R w base X cs) :
    Calls Tryz.prog 24 #[.int .i64 d, .agg cs.toArray] w fun r w' => r = optRet none ∧ Below w.heap.size w w' := by
  obtain ⟨neg, m, e, v, rfl, ⟨xs, A, c, hv, hc, hr, ht, hval⟩, he, heb, hX⟩ := h
  cases hv
  clear hval ht hr he hX
  by_cases h0 : d < 0
  · clear hd
    go_enter Tryz.func24, Tryz.ntmps24
    go_wp2
    go_ret2
    exact ⟨rfl, below_new (Below.refl _ _) _⟩
  · have h2 : 2 < d := by omega
    clear hd
    go_enter Tryz.func24, Tryz.ntmps24
    go_wp2
    go_ret2
    exact ⟨rfl, below_new (Below.refl _ _) _⟩
set_option maxHeartbeats 2000000 in
theorem roundd_pos (d : Int) (hd : 0 ≤ d ∧ d ≤ 2) (K base L m : Nat) (neg : Bool) (e : Int) (v : Value) (w : World) (hbase : base ≤ w.heap.size) (hm : mRd.R w base m [v]) (hm0 : m ≠ 0) (he0 : 0 ≤ e + K) (hX : m * 2 ^ (e + K).toNat < 2 ^ L) (hL : L ≤ 536870912) (hK0 : 1074 < K) (hK : K ≤ 536870912) :
    Calls Tryz.prog 24 #[.int .i64 d, .agg #[.bool neg, v, .int .i64 e]] w fun r w' => r = optRet (rndS d K (sg neg (m * 2 ^ (e + K).toNat))) ∧ Below w.heap.size w w' := by
  have hXX : (sg neg (m * 2 ^ (e + K).toNat)).natAbs < 2 ^ L := by rw [sg_abs]; exact hX
  have hel := exp_lt hm0 hXX
  have hml := man_lt hXX
  have hbm : bl m ≤ L := bl_le_of_lt hml
  have HM := Lib.hid hm
  obtain ⟨xs, A, c, hv, hc, hr, ht, hval⟩ := hm
  cases hv
  have hlen := man_len ht hval hml
  have hz := (ht.nil_iff (B := B32) (by decide))
  rw [hval] at hz
  have h0 : ((xs.length : Int) == 0) = false := by simp; exact fun h => hm0 (hz.1 (by rw [h]; rfl))
  obtain ⟨bm, hbl⟩ : ∃ b, bl m = b := ⟨_, rfl⟩
  have hLEN := fun W (h : Below w.heap.size w W) => length_calls A _ c 58 base xs W rfl (hr.below h) (by omega) ht
  rw [hval, hbl] at hLEN
  have HLEN := Lib.hid hLEN
  have hs1 : IntKind.i64.wrap ((bm : Int) + e) = (bm : Int) + e := IntWalk.i64_in _ (by omega)
  have hs2 : IntKind.i64.wrap ((bm : Int) + e - 53) = (bm : Int) + e - 53 := IntWalk.i64_in _ (by omega)
  obtain ⟨E, hE⟩ : ∃ E : Int, (if (bm : Int) + e - 53 < -1074 then (-1074 : Int) else (bm : Int) + e - 53) = E := ⟨_, rfl⟩
  have hE1 : -1074 ≤ E := by rw [← hE]; split <;> omega
  have hE2 : E ≤ 1073741824 := by rw [← hE]; split <;> omega
  have hkk : E + K = (shD K (m * 2 ^ (e + K).toNat) : Nat) := by
    unfold shD; rw [bl_mul_pow hm0, hbl, ← hE]; split <;> omega
  have HO := Lib.hid (fun W (h : Below w.heap.size w W) => over2_calls base m L K (shD K (m * 2 ^ (e + K).toNat) - 1) false e (E - 1) _ W (Nat.le_trans hbase h.size) (mRd.below HM.out h) hml (by omega) he0 (by omega) (by omega) (by omega) (by omega) (by omega))
  obtain ⟨hspec, hhb, hhn⟩ := rnd_spec (d := d) (neg := neg) hm0 hK0 rfl rfl rfl
  rw [← hkk, show E + K - (K : Int) = E from by omega] at hspec hhn
  rw [hspec]
  have hd1 : ¬ d < 0 := by omega
  have hd2 : ¬ 2 < d := by omega
  generalize hh : m * 2 ^ (e + K).toNat / 2 ^ (shD K (m * 2 ^ (e + K).toNat) - 1) = h at *
  generalize hrest : restB (m * 2 ^ (e + K).toNat % 2 ^ (shD K (m * 2 ^ (e + K).toNat) - 1)) = rest at *
  have HT := Lib.hid (fun W => told_all d hd neg rest h E W hhb hhn hE1 (by omega))
  clear hLEN hz hval ht hr hh hrest hspec hkk hX hXX hel hml hbm hm0 he0 hhn hd
  go_enter Tryz.func24, Tryz.ntmps24
  go_wp2
  go_quiet ((go_at_call 35; exact Calls.quiet_of_same ((HLEN.out _ (by repeat (first | exact Below.refl _ _ | (with_reducible apply below_drewN) | (with_reducible apply Below.drew) | (with_reducible apply below_new)))).mono (fun _ _ h => ⟨h.1, h.2.symm⟩))))
  clear hs1 hs2
  go_wp2_with fail
  refine (size_exact neg e A _ c _).mono ?_
  rintro r w1 ⟨rfl, hb1⟩
  obtain ⟨hc1, hf1⟩ := bcell hb1
  have hW1 : Below w.heap.size w w1 := below_next (by repeat (first | exact Below.refl _ _ | (with_reducible apply below_drewN) | (with_reducible apply below_new))) hb1
  have hn1 : w.heap.size < w1.heap.size := by have := hb1.size; simp [World.drewN] at this; omega
  go_wp2_with fail
  refine (HO.out _ hW1).mono ?_
  rintro r w2 ⟨v', rfl, hm2, hb2⟩
  obtain ⟨ts, C, cc, hvz, hcc, hr2, ht2, hv2⟩ := hm2
  cases hvz
  obtain ⟨hc2, hf2⟩ := bcell hb2
  have hn2 : w.heap.size < w2.heap.size := by have := hb2.size; omega
  have hl2 : ts.length ≤ 2 := mRd_len ht2 hv2 (show h < B32 ^ 2 by simp only [B32]; omega)
  have HWD := Lib.hid (fun W (hw : Below w2.heap.size w2 W) => word_calls C _ cc 58 base ts W rfl (hr2.below hw) hl2)
  rw [hv2] at HWD
  have hW2 : Below w.heap.size w w2 := below_next hW1 hb2
  go_wp2
  go_quiet (first | (go_at_call 39; exact Calls.quiet_of_same ((HWD.out _ (by repeat (first | exact Below.refl _ _ | (with_reducible apply below_drewN) | (with_reducible apply Below.drew) | (with_reducible apply below_new)))).mono (fun _ _ h => ⟨h.1, h.2.symm⟩))) | (go_at_call 38; exact Calls.quiet_of_same ((HT.out _).mono (fun _ _ h => ⟨h.1, h.2.symm⟩))))
  go_wp2
  go_ret2
  exact ⟨rfl, (by repeat (first | exact hW2 | (with_reducible apply below_drewN) | (with_reducible apply below_new)))⟩
/-- the number of X by d, d any -/
def rndD (d : Int) (K : Nat) (X : Int) : Option Nat := if 0 ≤ d ∧ d ≤ 2 then rndS d K X else none
theorem roundd_calls (d : Int) (K base L : Nat) (X : Int) (cs : List Value) (w : World) (hbase : base ≤ w.heap.size) (h : (numRd K).R w base X cs) (hX : X.natAbs < 2 ^ L) (hL : L ≤ 536870912) (hK0 : 1074 < K) (hK : K ≤ 536870912) :
    Calls Tryz.prog 24 #[.int .i64 d, .agg cs.toArray] w fun r w' => r = optRet (rndD d K X) ∧ Below w.heap.size w w' := by
  unfold rndD
  by_cases hd : 0 ≤ d ∧ d ≤ 2
  · rw [if_pos hd]
    by_cases h0 : X = 0
    · subst h0; exact roundd_zero d hd K base hK0 cs w h
    · obtain ⟨neg, m, e, v, rfl, hm, he, heb, rfl⟩ := h
      have hm0 : m ≠ 0 := fun h => h0 (by rw [h, Nat.zero_mul, sg_zero])
      exact roundd_pos d hd K base L m neg e v w hbase hm hm0 (he hm0) (by rw [sg_abs] at hX; exact hX) hL hK0 hK
  · rw [if_neg hd]
    exact roundd_out d (by omega) K base X cs w h
end Go.Proofs.YtikdhkmcdmnadaaGreatFmt
