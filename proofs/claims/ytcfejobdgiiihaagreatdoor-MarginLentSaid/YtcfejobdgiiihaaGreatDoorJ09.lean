/- Walks and plain laws of this seat's functions, part 9: N21 N22. -/
import Derived.Test.YtcfejobdgiiihaaGreatDoorJ06
import Derived.Test.YtcfejobdgiiihaaGreatDoorJ08
set_option linter.unusedVariables false
set_option linter.unusedSimpArgs false
namespace Go.Proofs.YtcfejobdgiiihaaGreatDoor
open Go.RowKit

theorem pack_and {u : Nat} (h1 : 4503599627370496 ≤ u) (h2 : u < 9007199254740992) : bits .and .u64 (u : Int) 4503599627370495 = ((u - 4503599627370496 : Nat) : Int) := by
  rw [show (4503599627370495 : Int) = ((2 ^ 52 - 1 : Nat) : Int) from by decide, u64_and_nat _ _ (by omega) (by decide), Nat.and_two_pow_sub_one_eq_mod]
  have : u % 2 ^ 52 = u - 4503599627370496 := by rw [show (2 : Nat) ^ 52 = 4503599627370496 from rfl]; omega
  rw [this]
theorem pack_or {lo E : Nat} (hlo : lo < 4503599627370496) (hE : E < 2048) : bits .or .u64 (lo : Int) ((E : Int) * 4503599627370496) = ((E * 4503599627370496 + lo : Nat) : Int) := by
  have e : (E : Int) * 4503599627370496 = ((E * 4503599627370496 : Nat) : Int) := by omega
  rw [e, u64_or_nat _ _ (by omega) (by omega), or_add_low (r := 52) (by omega) (by omega), Nat.add_comm]
theorem pack_sign {b : Nat} (hb : b < 9223372036854775808) : bits .or .u64 (b : Int) 9223372036854775808 = ((b + 9223372036854775808 : Nat) : Int) := by
  rw [show (9223372036854775808 : Int) = ((2 ^ 63 : Nat) : Int) from by decide, u64_or_nat _ _ (by omega) (by decide), or_add_low (r := 63) (by omega) (by decide)]

theorem pack_facts {q : Nat} {e : Int} (hn : 4503599627370496 ≤ q) (hq : q < 9007199254740992) (he : -1074 ≤ e) (he2 : e ≤ 971) : ∃ E lo P S : Nat, e + 1075 = (E : Int) ∧ E < 2048 ∧ bits .and .u64 (q : Int) 4503599627370495 = (lo : Int) ∧
    bits .or .u64 (lo : Int) ((E : Int) * 4503599627370496) = (P : Int) ∧ bits .or .u64 (P : Int) 9223372036854775808 = (S : Int) ∧ packB false q e = P ∧ packB true q e = S := by
  obtain ⟨E, hE⟩ : ∃ E : Nat, e + 1075 = (E : Int) := ⟨(e + 1075).toNat, by omega⟩
  have hEb : E < 2047 := by omega
  have hP : E * 4503599627370496 + (q - 4503599627370496) < 9223372036854775808 := by omega
  refine ⟨E, _, _, _, hE, by omega, pack_and hn hq, pack_or (by omega) (by omega), pack_sign hP, ?_, ?_⟩
  · unfold packB sgnB
    rw [if_pos hn, show (e + 1075).toNat = E from by omega, if_neg (by decide), Nat.add_zero]
  · unfold packB sgnB
    rw [if_pos hn, show (e + 1075).toNat = E from by omega, if_pos rfl]
theorem pack_small {q : Nat} {e : Int} (hq : q < 4503599627370496) (h0 : 0 < q) : ∃ S : Nat, bits .or .u64 (q : Int) 9223372036854775808 = (S : Int) ∧ packB false q e = q ∧ packB true q e = S := by
  refine ⟨_, pack_sign (by omega), ?_, ?_⟩
  · unfold packB sgnB
    rw [if_neg (by omega), if_pos h0, if_neg (by decide), Nat.add_zero]
  · unfold packB sgnB
    rw [if_neg (by omega), if_pos h0, if_pos rfl]
/-- the bits of q 2^e, which there is -/
def numB (neg : Bool) (q : Nat) (e : Int) : Nat := if q = 9007199254740992 then packB neg 4503599627370496 (e + 1) else packB neg q e
set_option maxHeartbeats 2000000 in
set_option maxRecDepth 100000 in
theorem number_zero (neg : Bool) (b : Nat) (v : Value) (e : Int) (w : World) (hx : IntR w b v 0) :
    Calls Tryz.prog 108 #[.bool neg, .pointer (some ⟨b, 0, none⟩), .int .i64 e] w fun r w' => r = .returned (.float .f64 0) ∧ Below w.heap.size w w' := by
  have HS := iSign_calls b 0 v w hx
  rw [if_pos rfl] at HS
  replace HS := Lib.hid HS
  clear hx
  go_enter Tryz.func108, Tryz.ntmps108
  go_wp2_with fail
  refine HS.out.mono ?_
  rintro r w' ⟨rfl, rfl⟩
  go_wp2
  go_ret
  exact ⟨rfl, Below.refl _ _⟩

set_option maxHeartbeats 2000000 in
set_option maxRecDepth 100000 in
/-- 53 bits -/
theorem number_norm (neg : Bool) (b q : Nat) (v : Value) (e : Int) (w : World) (hx : IntR w b v q) (hn : 4503599627370496 ≤ q) (hq : q < 9007199254740992) (he : -1074 ≤ e) (he2 : e ≤ 971) :
    Calls Tryz.prog 108 #[.bool neg, .pointer (some ⟨b, 0, none⟩), .int .i64 e] w fun r w' => r = .returned (.float .f64 (packB neg q e)) ∧ Below w.heap.size w w' := by
  have HS := iSign_calls b q v w hx
  rw [if_neg (by omega)] at HS
  replace HS := Lib.hid HS
  have hb : bl q = 53 := bl_eq (L := 52) (by omega) (by omega)
  have HB := fun W (hW : IntR W b v q) => iBitLen_calls b q v W hW
  rw [hb] at HB
  replace HB := Lib.hid HB
  have hbl := hx.cells.2.2
  have hBz := Blk.new w #[.bool false, .slice none 0 0] 149
  have hx2 := hx.keep (below_new (Below.refl _ _) (.cells #[.bool false, .slice none 0 0] 149))
  have HL := Lib.hid (iLsh_calls w.heap.size b q 0 false v _ hBz hx2 (by omega) (by omega) 1 (by simp only [B64]; omega) (by omega))
  have HX := Lib.hid hx
  have HU := Lib.hid (fun W v' (hW : IntR W w.heap.size v' q) => iUint64_calls w.heap.size q v' W hW (by simp only [B64]; omega))
  obtain ⟨E, lo, P, S, hE, hEb, h1, h2, h3, hf, ht⟩ := pack_facts hn hq he he2
  have hge : (4503599627370496 : Int) ≤ (q : Int) := by omega
  have HF := Lib.hid hf
  have HT := Lib.hid ht
  clear hx hx2 hBz hb hn hq hf ht
  cases neg
  · go_enter Tryz.func108, Tryz.ntmps108
    go_wp2_with fail
    refine HS.out.mono ?_
    rintro r w' ⟨rfl, rfl⟩
    go_wp2_with fail
    refine (HB.out _ HX.out).mono ?_
    rintro r w' ⟨rfl, rfl⟩
    go_wp2_with fail
    refine HL.out.mono ?_
    rintro r w2 ⟨rfl, v', hz2, hO2, hW2⟩
    have HI : Hid (IntR w2 w.heap.size v' q) := ⟨hz2, _, by rw [Nat.pow_zero, Nat.mul_one] at hO2; exact hO2⟩
    have HW := Lib.hid hW2
    clear hz2 hO2 hW2
    go_wp2_with fail
    refine (HU.out _ _ HI.out).mono ?_
    rintro r w3 ⟨rfl, rfl⟩
    go_wp2
    go_ret
    exact ⟨by rw [HF.out]; rfl, (below_new (Below.refl _ _) _).trans HW.out⟩
  · go_enter Tryz.func108, Tryz.ntmps108
    go_wp2_with fail
    refine HS.out.mono ?_
    rintro r w' ⟨rfl, rfl⟩
    go_wp2_with fail
    refine (HB.out _ HX.out).mono ?_
    rintro r w' ⟨rfl, rfl⟩
    go_wp2_with fail
    refine HL.out.mono ?_
    rintro r w2 ⟨rfl, v', hz2, hO2, hW2⟩
    have HI : Hid (IntR w2 w.heap.size v' q) := ⟨hz2, _, by rw [Nat.pow_zero, Nat.mul_one] at hO2; exact hO2⟩
    have HW := Lib.hid hW2
    clear hz2 hO2 hW2
    go_wp2_with fail
    refine (HU.out _ _ HI.out).mono ?_
    rintro r w3 ⟨rfl, rfl⟩
    go_wp2
    go_ret
    exact ⟨by rw [HT.out]; rfl, (below_new (Below.refl _ _) _).trans HW.out⟩
set_option maxHeartbeats 2000000 in
set_option maxRecDepth 100000 in
/-- 2^53 -/
theorem number_54 (neg : Bool) (b : Nat) (v : Value) (e : Int) (w : World) (hx : IntR w b v 9007199254740992) (he : -1074 ≤ e) (he2 : e ≤ 970) :
    Calls Tryz.prog 108 #[.bool neg, .pointer (some ⟨b, 0, none⟩), .int .i64 e] w fun r w' => r = .returned (.float .f64 (packB neg 4503599627370496 (e + 1))) ∧ Below w.heap.size w w' := by
  have HS := iSign_calls b 9007199254740992 v w hx
  rw [if_neg (by omega)] at HS
  replace HS := Lib.hid HS
  obtain ⟨q2, hq2⟩ : ∃ q2 : Nat, q2 = 4503599627370496 := ⟨_, rfl⟩
  have hb : bl 9007199254740992 = 54 := bl_eq (L := 53) (by decide) (by decide)
  have HB := fun W (hW : IntR W b v 9007199254740992) => iBitLen_calls b 9007199254740992 v W hW
  rw [hb] at HB
  replace HB := Lib.hid HB
  have hbl := hx.cells.2.2
  have hBz := Blk.new w #[.bool false, .slice none 0 0] 149
  have hx2 := hx.keep (below_new (Below.refl _ _) (.cells #[.bool false, .slice none 0 0] 149))
  have HL := Lib.hid (iRsh_calls w.heap.size b 9007199254740992 1 false v _ hBz hx2 (by omega) (by omega) (by omega) 1 (by decide) (by omega))
  have HX := Lib.hid hx
  have HU := Lib.hid (fun W v' (hW : IntR W w.heap.size v' q2) => iUint64_calls w.heap.size q2 v' W hW (by rw [hq2]; decide))
  obtain ⟨E, lo, P, S, hE, hEb, h1, h2, h3, hf, ht⟩ := pack_facts (q := q2) (e := e + 1) (by omega) (by omega) (by omega) (by omega)
  rw [hq2] at hf ht
  have hge : (4503599627370496 : Int) ≤ (q2 : Int) := by omega
  have HQ2 := Lib.hid hq2
  have HF := Lib.hid hf
  have HT := Lib.hid ht
  clear hx hx2 hBz hb hf ht hq2
  cases neg
  · go_enter Tryz.func108, Tryz.ntmps108
    go_wp2_with fail
    refine HS.out.mono ?_
    rintro r w' ⟨rfl, rfl⟩
    go_wp2_with fail
    refine (HB.out _ HX.out).mono ?_
    rintro r w' ⟨rfl, rfl⟩
    go_wp2_with fail
    refine HL.out.mono ?_
    rintro r w2 ⟨rfl, v', hz2, hO2, hW2⟩
    have HI : Hid (IntR w2 w.heap.size v' q2) := ⟨hz2, _, by rw [HQ2.out]; exact hO2⟩
    have HW := Lib.hid hW2
    clear hz2 hO2 hW2
    go_wp2_with fail
    refine (HU.out _ _ HI.out).mono ?_
    rintro r w3 ⟨rfl, rfl⟩
    go_wp2
    go_ret
    exact ⟨by rw [HF.out]; rfl, (below_new (Below.refl _ _) _).trans HW.out⟩
  · go_enter Tryz.func108, Tryz.ntmps108
    go_wp2_with fail
    refine HS.out.mono ?_
    rintro r w' ⟨rfl, rfl⟩
    go_wp2_with fail
    refine (HB.out _ HX.out).mono ?_
    rintro r w' ⟨rfl, rfl⟩
    go_wp2_with fail
    refine HL.out.mono ?_
    rintro r w2 ⟨rfl, v', hz2, hO2, hW2⟩
    have HI : Hid (IntR w2 w.heap.size v' q2) := ⟨hz2, _, by rw [HQ2.out]; exact hO2⟩
    have HW := Lib.hid hW2
    clear hz2 hO2 hW2
    go_wp2_with fail
    refine (HU.out _ _ HI.out).mono ?_
    rintro r w3 ⟨rfl, rfl⟩
    go_wp2
    go_ret
    exact ⟨by rw [HT.out]; rfl, (below_new (Below.refl _ _) _).trans HW.out⟩
end Go.Proofs.YtcfejobdgiiihaaGreatDoor

namespace Go.Proofs.YtcfejobdgiiihaaGreatDoor
open Go.RowKit
set_option maxHeartbeats 2000000 in
set_option maxRecDepth 100000 in
/-- fewer bits: at the lowest place -/
theorem number_sub (neg : Bool) (b q : Nat) (v : Value) (e : Int) (w : World) (hx : IntR w b v q) (h0 : 0 < q) (hq : q < 4503599627370496) (he : e = -1074) :
    Calls Tryz.prog 108 #[.bool neg, .pointer (some ⟨b, 0, none⟩), .int .i64 e] w fun r w' => r = .returned (.float .f64 (packB neg q e)) ∧ Below w.heap.size w w' := by
  have HS := iSign_calls b q v w hx
  rw [if_neg (by omega)] at HS
  replace HS := Lib.hid HS
  obtain ⟨l, hb⟩ : ∃ l, bl q = l := ⟨_, rfl⟩
  have hlb : l ≤ 52 := by rw [← hb]; exact bl_le_of_lt (L := 52) (by omega)
  have hl1 : (l : Int) - 53 + e < -1074 := by omega
  have hl2 : -1074 - e = 0 := by omega
  have hl3 : -1074 ≤ e := by omega
  have hl4 : e ≤ 0 := by omega
  have HB := fun W (hW : IntR W b v q) => iBitLen_calls b q v W hW
  rw [hb] at HB
  replace HB := Lib.hid HB
  have hbl := hx.cells.2.2
  have hBz := Blk.new w #[.bool false, .slice none 0 0] 149
  have hx2 := hx.keep (below_new (Below.refl _ _) (.cells #[.bool false, .slice none 0 0] 149))
  have HL := Lib.hid (iLsh_calls w.heap.size b q 0 false v _ hBz hx2 (by omega) (by omega) 1 (by simp only [B64]; omega) (by omega))
  have HX := Lib.hid hx
  have HU := Lib.hid (fun W v' (hW : IntR W w.heap.size v' q) => iUint64_calls w.heap.size q v' W hW (by simp only [B64]; omega))
  obtain ⟨S, h3, hf, ht⟩ := pack_small (e := e) hq h0
  have hge : ¬ (4503599627370496 : Int) ≤ (q : Int) := by omega
  obtain ⟨Q, hQ⟩ : ∃ Q : Int, Q = (q : Int) := ⟨_, rfl⟩
  rw [← hQ] at h3 hge
  have HU2 : Hid (∀ W v', IntR W w.heap.size v' q → Calls Tryz.prog 125 #[.pointer (some ⟨w.heap.size, 0, none⟩)] W fun e w' => e = .returned (.int .u64 Q) ∧ W = w') := by rw [hQ]; exact HU.out
  have HQ := Lib.hid hQ
  clear hQ HU
  have HF := Lib.hid hf
  have HT := Lib.hid ht
  clear hx hx2 hBz hb h0 hq hf ht he
  cases neg
  · go_enter Tryz.func108, Tryz.ntmps108
    go_wp2_with fail
    refine HS.out.mono ?_
    rintro r w' ⟨rfl, rfl⟩
    go_wp2_with fail
    refine (HB.out _ HX.out).mono ?_
    rintro r w' ⟨rfl, rfl⟩
    go_wp2_with fail
    refine HL.out.mono ?_
    rintro r w2 ⟨rfl, v', hz2, hO2, hW2⟩
    have HI : Hid (IntR w2 w.heap.size v' q) := ⟨hz2, _, by rw [Nat.pow_zero, Nat.mul_one] at hO2; exact hO2⟩
    have HW := Lib.hid hW2
    clear hz2 hO2 hW2
    go_wp2_with fail
    refine (HU2.out _ _ HI.out).mono ?_
    rintro r w3 ⟨rfl, rfl⟩
    go_wp2
    go_ret
    exact ⟨by rw [HF.out]; show Ending.returned (.float .f64 Q.toNat) = _; rw [HQ.out]; rfl, (below_new (Below.refl _ _) _).trans HW.out⟩
  · go_enter Tryz.func108, Tryz.ntmps108
    go_wp2_with fail
    refine HS.out.mono ?_
    rintro r w' ⟨rfl, rfl⟩
    go_wp2_with fail
    refine (HB.out _ HX.out).mono ?_
    rintro r w' ⟨rfl, rfl⟩
    go_wp2_with fail
    refine HL.out.mono ?_
    rintro r w2 ⟨rfl, v', hz2, hO2, hW2⟩
    have HI : Hid (IntR w2 w.heap.size v' q) := ⟨hz2, _, by rw [Nat.pow_zero, Nat.mul_one] at hO2; exact hO2⟩
    have HW := Lib.hid hW2
    clear hz2 hO2 hW2
    go_wp2_with fail
    refine (HU2.out _ _ HI.out).mono ?_
    rintro r w3 ⟨rfl, rfl⟩
    go_wp2
    go_ret
    exact ⟨by rw [HT.out]; rfl, (below_new (Below.refl _ _) _).trans HW.out⟩
end Go.Proofs.YtcfejobdgiiihaaGreatDoor
