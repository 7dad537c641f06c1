/- Walks and plain laws of this seat's functions, part 12: A12. -/
import Derived.Test.YtcfejobdgiiihaaGreatDoorJ07
import Derived.Test.YtcfejobdgiiihaaGreatDoorJ11
set_option linter.unusedVariables false
set_option linter.unusedSimpArgs false
namespace Go.Proofs.YtcfejobdgiiihaaGreatDoor
open Go.RowKit

set_option maxHeartbeats 1000000 in
set_option maxRecDepth 100000 in
theorem atold_zero (neg : Bool) (bm : Nat) (vm : Value) (w : World) (hx : IntR w bm vm 0) :
    Calls Tryz.prog 88 #[.int .i64 2, .bool neg, .pointer (some ⟨bm, 0, none⟩), .int .i64 (-2212), .bool false] w fun r w' => r = fRet (some 0) ∧ Below w.heap.size w w' := by
  have HS := iSign_calls bm 0 vm w hx
  rw [if_pos rfl] at HS
  replace HS := Lib.hid HS
  clear hx
  go_enter Tryz.func88, Tryz.ntmps88
  go_wp2_with fail
  refine HS.out.mono ?_
  rintro r w' ⟨rfl, rfl⟩
  go_wp2
  go_ret2
  exact ⟨rfl, Below.refl _ _⟩
theorem sub_div_mod (m p : Nat) : m - m / p * p = m % p := by
  have := Nat.mod_add_div m p
  rw [Nat.mul_comm] at this
  omega
set_option exponentiation.threshold 6000 in
theorem atold_pos (neg : Bool) (bm m : Nat) (vm : Value) (w : World) (hx : IntR w bm vm m) (h0 : 0 < m) (hm : m < B64 ^ 76) :
    Calls Tryz.prog 88 #[.int .i64 2, .bool neg, .pointer (some ⟨bm, 0, none⟩), .int .i64 (-2212), .bool false] w fun r w' => r = fRet (rdown 2212 (sg neg m)) ∧ Below w.heap.size w w' := by
  have hb1 := bl_lt m
  have hb2 := bl_le (show m ≠ 0 by omega)
  have hl4 : bl m ≤ 4864 := by
    apply bl_le_of_lt
    rw [show (2 : Nat) ^ 4864 = B64 ^ 76 from by rw [show B64 = 2 ^ 64 from rfl, ← Nat.pow_mul]]
    exact hm
  have hX0 : sg neg m ≠ 0 := by cases neg <;> simp [sg] <;> omega
  have hXn : decide (sg neg m < 0) = neg := by cases neg <;> simp [sg] <;> omega
  have hXa : (sg neg m).natAbs = m := sg_abs _ _
  obtain ⟨l, hl⟩ : ∃ l, bl m = l := ⟨_, rfl⟩
  rw [hl] at hb1 hb2 hl4
  by_cases hc : 1191 ≤ l
  · obtain ⟨n, hn⟩ : ∃ n, n = l - 53 := ⟨_, rfl⟩
    have hsh : shD 2212 m = n := by unfold shD; rw [hl]; omega
    have hR : rdown 2212 (sg neg m) = downEnd neg (m / 2 ^ n + (if neg && decide (m % 2 ^ n ≠ 0) then 1 else 0)) ((n : Int) - 2212) := by
      unfold rdown; rw [if_neg hX0, hXn, hXa, hsh]; rfl
    have hp : 0 < 2 ^ n := Nat.pow_pos (by decide)
    have hq1 : m / 2 ^ n < 9007199254740992 := by
      rw [Nat.div_lt_iff_lt_mul hp, show (9007199254740992 : Nat) = 2 ^ 53 from by decide, ← Nat.pow_add, show 53 + n = l from by omega]; exact hb1
    have hq2 : 4503599627370496 ≤ m / 2 ^ n := by
      rw [Nat.le_div_iff_mul_le hp, show (4503599627370496 : Nat) = 2 ^ 52 from by decide, ← Nat.pow_add, show 52 + n = l - 1 from by omega]; exact hb2
    rw [hR]
    rw [← sub_div_mod]
    by_cases hr : m - m / 2 ^ n * 2 ^ n = 0
    · cases neg
      · exact atold_big_p0 bm m l n _ vm w hx h0 hm hl hc hl4 hn rfl hr _ (by simp) (by simp; omega) (fun h => by simp at h; omega)
      · exact atold_big_n0 bm m l n _ vm w hx h0 hm hl hc hl4 hn rfl hr _ (by simp [hr]) (by simp [hr]; omega) (fun h => by simp [hr] at h; omega)
    · cases neg
      · exact atold_big_p1 bm m l n _ vm w hx h0 hm hl hc hl4 hn rfl hr _ (by simp) (by simp; omega) (fun h => by simp at h; omega)
      · exact atold_big_n1 bm m l n _ vm w hx h0 hm hl hc hl4 hn rfl hr _ (by simp [hr]) (by simp [hr]; omega) (fun h => by simp [hr] at h; omega)
  · obtain ⟨n, hn⟩ : ∃ n, n = 1138 := ⟨_, rfl⟩
    have hsh : shD 2212 m = n := by unfold shD; rw [hl]; omega
    have hR : rdown 2212 (sg neg m) = downEnd neg (m / 2 ^ n + (if neg && decide (m % 2 ^ n ≠ 0) then 1 else 0)) (-1074) := by
      unfold rdown; rw [if_neg hX0, hXn, hXa, hsh, hn]; rfl
    have hp : 0 < 2 ^ n := Nat.pow_pos (by decide)
    have hq1 : m / 2 ^ n < 9007199254740992 := by
      rw [Nat.div_lt_iff_lt_mul hp, show (9007199254740992 : Nat) = 2 ^ 53 from by decide, ← Nat.pow_add]
      exact Nat.lt_of_lt_of_le hb1 (Nat.pow_le_pow_right (by decide) (by omega))
    rw [hR]
    rw [← sub_div_mod]
    by_cases hr : m - m / 2 ^ n * 2 ^ n = 0
    · cases neg
      · subst hn; exact atold_sm_p0 bm m l vm w hx h0 hm hl (by omega) hr _ (by simp) (by simp; omega) (fun h => rfl)
      · subst hn; exact atold_sm_n0 bm m l vm w hx h0 hm hl (by omega) hr _ (by simp [hr]) (by simp [hr]; omega) (fun h => rfl)
    · cases neg
      · subst hn; exact atold_sm_p1 bm m l vm w hx h0 hm hl (by omega) hr _ (by simp) (by simp; omega) (fun h => rfl)
      · subst hn; exact atold_sm_n1 bm m l vm w hx h0 hm hl (by omega) hr _ (by simp [hr]) (by simp [hr]; omega) (fun h => rfl)
theorem atold_calls (neg : Bool) (bm : Nat) (X : Int) (vm : Value) (w : World) (hx : IntR w bm vm X.natAbs) (hn : neg = decide (X < 0)) (hm : X.natAbs < B64 ^ 76) :
    Calls Tryz.prog 88 #[.int .i64 2, .bool neg, .pointer (some ⟨bm, 0, none⟩), .int .i64 (-2212), .bool false] w fun r w' => r = fRet (rdown 2212 X) ∧ Below w.heap.size w w' := by
  by_cases h0 : X = 0
  · subst h0
    have : rdown 2212 0 = some 0 := by unfold rdown; rw [if_pos rfl]
    rw [this]
    exact atold_zero neg bm vm w hx
  · have := atold_pos neg bm X.natAbs vm w hx (by omega) hm
    have e : sg neg X.natAbs = X := by
      rw [hn]; unfold sg
      by_cases h : X < 0
      · rw [decide_eq_true h, if_pos rfl]; omega
      · rw [decide_eq_false h]; simp; omega
    rw [e] at this
    exact this
set_option maxHeartbeats 1000000 in
set_option maxRecDepth 100000 in
theorem around_calls (b : Nat) (X : Int) (w : World) (hb : AccI w b X) :
    Calls Tryz.prog 52 #[.pointer (some ⟨b, 0, none⟩), .int .i64 2] w fun r w' => r = fRet (rdown 2212 X) ∧ Below w.heap.size w w' := by
  have HW := Lib.hid (awhole_calls b X w hb)
  obtain ⟨hX, ws, hw, hb⟩ := hb
  have hx76 := acc_mark hb hw.len
  have HN := Lib.hid (aneg_calls b ws false w hb hw.len hw.bd)
  have HT := Lib.hid (hw.top hX).1
  have HX : Hid (X.natAbs < B64 ^ 76) := Nat.lt_of_lt_of_le hX (Nat.le_trans pow4772 (Nat.pow_le_pow_right (by decide) (by decide)))
  clear hb hw hX
  go_enter Tryz.func52, Tryz.ntmps52
  go_wp2_with fail
  refine HN.out.mono ?_
  rintro e w2 ⟨rfl, rfl⟩
  go_wp2_with fail
  refine HW.out.mono ?_
  rintro e w2 ⟨bz, v, rfl, hbz, hI, hW2⟩
  have HTD := Lib.hid (atold_calls (negB ws) bz X v w2 hI HT.out HX.out)
  have HW2 := Lib.hid hW2
  clear hI hW2
  go_wp2_with fail
  refine HTD.out.mono ?_
  rintro e w3 ⟨rfl, hW3⟩
  have HW3 := Lib.hid (below_next HW2.out hW3)
  clear hW3
  obtain ⟨o, ho⟩ : ∃ o, rdown 2212 X = o := ⟨_, rfl⟩
  have HO := Lib.hid ho
  rw [ho]
  unfold fRet
  clear ho
  go_wp2
  go_ret2
  exact ⟨by rw [HO.out]; rfl, HW3.out⟩
end Go.Proofs.YtcfejobdgiiihaaGreatDoor
