/- Walks and plain laws of this seat's functions, part 7: R2i. -/
import Derived.Test.YtikdhkmcdmnadaaGreatFmtJ06
set_option linter.unusedVariables false
set_option linter.unusedSimpArgs false
namespace Go.Proofs.YtikdhkmcdmnadaaGreatFmt
open Go.RowKit

set_option maxHeartbeats 1000000 in
theorem over2_up (base m L : Nat) (neg : Bool) (e n : Int) (v : Value) (w : World) (hbase : base ≤ w.heap.size) (hm : mRd.R w base m [v]) (hml : m < 2 ^ L) (hL : L ≤ 1073741824) (h1 : n ≤ e) (h2 : e - n ≤ 1073741824) (h3 : -1099511627776 ≤ n) (h4 : e ≤ 1099511627776) :
    Calls Tryz.prog 36 #[.agg #[.bool neg, v, .int .i64 e], .int .i64 n] w fun r w' => ∃ v', r = .returned (.tuple #[.agg #[.bool false, v', .int .i64 0], .bool false]) ∧ mRd.R w' base (m * 2 ^ (e - n).toNat) [v'] ∧ Below w.heap.size w w' := by
  obtain ⟨xs, A, ca, hv, hc, hr, ht, hval⟩ := hm
  cases hv
  have hlen := man_len ht hval hml
  obtain ⟨j, rfl⟩ : ∃ j : Nat, e = n + j := ⟨(e - n).toNat, by omega⟩
  have HJ : Hid ((n + (j : Int) - n).toNat = j) := by simp only [Hid]; omega
  have hj : j ≤ 1099511627776 := by omega
  have hw3 : n + (j : Int) - n = (j : Int) := by omega
  rw [HJ.out]
  have HR : Hid (∀ W, Below w.heap.size w W → u32.Row 58 W base A xs) := fun W h => hr.below h
  have HV := Lib.hid hval
  clear ht hval hr hml h2
  go_enter Tryz.func36, Tryz.ntmps36
  go_wp2_with fail
  refine (left_calls A _ ca 58 base base j xs _ rfl (HR.out _ (by repeat (first | exact Below.refl _ _ | (with_reducible apply below_new)))) (by omega) hj).mono ?_
  rintro r w1 ⟨v, rfl, hm, hb⟩
  have HM := Lib.hid hm
  obtain ⟨ts, C, cc, hvz, _⟩ := hm
  cases hvz
  obtain ⟨hc, hf⟩ := bcell hb
  have hT0 : NT ((w.alloc (.cells #[.bool neg, .slice A xs.length ca, .int .i64 (n + j)] 38)).alloc (.cells #[.bool false, .slice none 0 0, .int .i64 0] 38)) 58 (w.heap.size + 1) := by have := NT.new (w.alloc (.cells #[.bool neg, .slice A xs.length ca, .int .i64 (n + j)] 38)) #[.bool false, .slice none 0 0, .int .i64 0] 38 58 (by decide); simpa using this
  have hT1 := hT0.below hb
  have hW1 : Below w.heap.size w w1 := below_next (by repeat (first | exact Below.refl _ _ | (with_reducible apply below_new))) hb
  go_wp2
  refine bodyPost_ret (v := .tuple #[.agg #[.bool false, .slice C ts.length cc, .int .i64 0], .bool false]) (by simp [results, Tryz.results36, go_sem, hc]) rfl ⟨_, rfl, ?_, (by repeat (first | exact hW1 | refine Below.setCell ?_ (by simp <;> omega) _))⟩
  rw [← HV.out]
  (repeat (first | exact HM.out | refine mRd_setNT ?_ (by repeat (first | exact hT1 | apply NT.set)) (by omega) _ _))
set_option maxHeartbeats 1000000 in
theorem over2_down (base m L : Nat) (neg : Bool) (e n : Int) (v : Value) (w : World) (hbase : base ≤ w.heap.size) (hm : mRd.R w base m [v]) (hml : m < 2 ^ L) (hL : L ≤ 1073741824) (h1 : e < n) (h2 : n - e ≤ 1073741824) (h3 : -1099511627776 ≤ e) (h4 : n ≤ 1099511627776) :
    Calls Tryz.prog 36 #[.agg #[.bool neg, v, .int .i64 e], .int .i64 n] w fun r w' => ∃ v', r = .returned (.tuple #[.agg #[.bool false, v', .int .i64 0], .bool (restB (m % 2 ^ (n - e).toNat))]) ∧ mRd.R w' base (m / 2 ^ (n - e).toNat) [v'] ∧ Below w.heap.size w w' := by
  obtain ⟨xs, A, ca, hv, hc, hr, ht, hval⟩ := hm
  cases hv
  have hlen := man_len ht hval hml
  obtain ⟨j, rfl⟩ : ∃ j : Nat, n = e + j := ⟨(n - e).toNat, by omega⟩
  have HJ : Hid ((e + (j : Int) - e).toNat = j) := by simp only [Hid]; omega
  have hj : j ≤ 1099511627776 := by omega
  have hw3 : e + (j : Int) - e = (j : Int) := by omega
  rw [HJ.out]
  have HR : Hid (∀ W, Below w.heap.size w W → u32.Row 58 W base A xs) := fun W h => hr.below h
  have HV := Lib.hid hval
  clear ht hval hr hml h2
  go_enter Tryz.func36, Tryz.ntmps36
  go_wp2_with fail
  refine (right_calls A _ ca 58 base base j xs _ rfl (HR.out _ (by repeat (first | exact Below.refl _ _ | (with_reducible apply below_new)))) (by omega) hj).mono ?_
  rintro r w1 ⟨v, rfl, hm, hb⟩
  have HM := Lib.hid hm
  obtain ⟨ts, C, cc, hvz, _⟩ := hm
  cases hvz
  rw [HV.out]
  obtain ⟨hc, hf⟩ := bcell hb
  have hT0 : NT ((w.alloc (.cells #[.bool neg, .slice A xs.length ca, .int .i64 e] 38)).alloc (.cells #[.bool false, .slice none 0 0, .int .i64 0] 38)) 58 (w.heap.size + 1) := by have := NT.new (w.alloc (.cells #[.bool neg, .slice A xs.length ca, .int .i64 e] 38)) #[.bool false, .slice none 0 0, .int .i64 0] 38 58 (by decide); simpa using this
  have hT1 := hT0.below hb
  have hW1 : Below w.heap.size w w1 := below_next (by repeat (first | exact Below.refl _ _ | (with_reducible apply below_new))) hb
  obtain ⟨rb, hrb⟩ : ∃ rb, restB (m % 2 ^ j) = rb := ⟨_, rfl⟩
  rw [hrb]
  have HRB := Lib.hid hrb
  clear hrb
  go_wp2
  refine bodyPost_ret (v := .tuple #[.agg #[.bool false, .slice C ts.length cc, .int .i64 0], .bool rb]) (by simp [results, Tryz.results36, go_sem, hc]) rfl ⟨_, by rw [HRB.out], ?_, (by repeat (first | exact hW1 | refine Below.setCell ?_ (by simp <;> omega) _))⟩
  rw [← HV.out]
  (repeat (first | exact HM.out | refine mRd_setNT ?_ (by repeat (first | exact hT1 | apply NT.set)) (by omega) _ _))

/-! rounding down, of X parts of 2^-K -/
def shD (K n : Nat) : Nat := max (bl n - 53) (K - 1074)
def rdown (K : Nat) (X : Int) : Option Nat :=
  if X = 0 then some 0
  else downEnd (decide (X < 0)) (X.natAbs / 2 ^ shD K X.natAbs + (if decide (X < 0) && decide (X.natAbs % 2 ^ shD K X.natAbs ≠ 0) then 1 else 0)) ((shD K X.natAbs : Int) - K)
set_option maxHeartbeats 1000000 in
theorem round_zero (K base : Nat) (cs : List Value) (w : World) (h : (numRd K).R w base 0 cs) :
    Calls Tryz.prog 24 #[.int .i64 2, .agg cs.toArray] w fun r w' => r = optRet (rdown K 0) ∧ Below w.heap.size w w' := by
  obtain ⟨neg, m, e, v, rfl, ⟨xs, A, c, hv, hc, hr, ht, hval⟩, he, heb, hX⟩ := h
  cases hv
  have hm : m = 0 := sg_eq_zero hX.symm
  have hz := (ht.nil_iff (B := B32) (by decide)).2 (by rw [hval]; exact hm)
  have h0 : ((xs.length : Int) == 0) = true := by simp; exact List.length_eq_zero_iff.1 hz
  clear hz hval ht hr hm he hX
  go_enter Tryz.func24, Tryz.ntmps24
  go_wp2
  go_ret2
  exact ⟨rfl, below_new (Below.refl _ _) _⟩
theorem rdown_spec {K m k0 : Nat} {neg : Bool} (hm : m ≠ 0) (hK : 1074 < K) {h : Nat} {rest : Bool} {k : Nat} (hk : k = shD K (m * 2 ^ k0)) (hh : h = m * 2 ^ k0 / 2 ^ (k - 1)) (hr : rest = restB (m * 2 ^ k0 % 2 ^ (k - 1))) :
    rdown K (sg neg (m * 2 ^ k0)) = downEnd neg (h / 2 + moreD neg rest h) ((k : Int) - K) ∧ h < 18014398509481984 := by
  have hn : 0 < m * 2 ^ k0 := Nat.mul_pos (by omega) (Nat.pow_pos (by decide))
  generalize m * 2 ^ k0 = n at *
  have h0 : sg neg n ≠ 0 := by cases neg <;> simp [sg] <;> omega
  have h1 : decide (sg neg n < 0) = neg := by cases neg <;> simp [sg] <;> omega
  have h2 : (sg neg n).natAbs = n := sg_abs _ _
  have hk1 : 1 ≤ k := by rw [hk]; unfold shD; omega
  have e2 : 2 ^ k = 2 ^ (k - 1) * 2 := by rw [← Nat.pow_succ]; congr 1; omega
  have e3 : n / 2 ^ k = h / 2 := by rw [e2, ← Nat.div_div_eq_div_mul, hh]
  have e4 : n % 2 ^ k = n % 2 ^ (k - 1) + 2 ^ (k - 1) * (h % 2) := by rw [e2, Nat.mod_mul, hh]
  have hp : 0 < 2 ^ (k - 1) := Nat.pow_pos (by decide)
  refine ⟨?_, ?_⟩
  · unfold rdown
    rw [if_neg h0, h1, h2, ← hk, e3]
    congr 1
    congr 1
    unfold moreD restB at *
    rw [hr]
    have : decide (n % 2 ^ k ≠ 0) = (decide (h % 2 = 1) || decide (n % 2 ^ (k - 1) ≠ 0)) := by
      rw [Bool.eq_iff_iff]
      simp only [decide_eq_true_eq, Bool.or_eq_true]
      rw [e4]
      rcases Nat.mod_two_eq_zero_or_one h with hq | hq
      · rw [hq]; simp
      · rw [hq]; simp
    rw [this]
  · have hb : bl n ≤ k + 53 := by rw [hk]; unfold shD; omega
    have hl := bl_lt n
    have : 2 ^ bl n ≤ 2 ^ (k - 1) * 18014398509481984 := by
      rw [show (18014398509481984 : Nat) = 2 ^ 54 from by decide, ← Nat.pow_add]
      exact Nat.pow_le_pow_right (by decide) (by omega)
    rw [hh, Nat.div_lt_iff_lt_mul hp, Nat.mul_comm]
    omega

theorem over2_calls (base m L K j : Nat) (neg : Bool) (e n : Int) (v : Value) (w : World) (hbase : base ≤ w.heap.size) (hm : mRd.R w base m [v]) (hml : m < 2 ^ L) (hL : L ≤ 1073741824) (he : 0 ≤ e + K) (hn : 0 ≤ n + K) (hj : (n + K).toNat = j) (he2 : e + K ≤ 1073741824) (hn2 : n + K ≤ 1073741824) (hK : K ≤ 1073741824) :
    Calls Tryz.prog 36 #[.agg #[.bool neg, v, .int .i64 e], .int .i64 n] w fun r w' => ∃ v', r = .returned (.tuple #[.agg #[.bool false, v', .int .i64 0], .bool (restB (m * 2 ^ (e + K).toNat % 2 ^ j))]) ∧ mRd.R w' base (m * 2 ^ (e + K).toNat / 2 ^ j) [v'] ∧ Below w.heap.size w w' := by
  rcases Int.lt_or_le e n with h | h
  · have e1 : j = (e + K).toNat + (n - e).toNat := by omega
    have hp : 0 < 2 ^ (e + K).toNat := Nat.pow_pos (by decide)
    have e2 : m * 2 ^ (e + K).toNat / 2 ^ j = m / 2 ^ (n - e).toNat := by
      rw [e1, Nat.pow_add, Nat.mul_comm, Nat.mul_div_mul_left _ _ hp]
    have e3 : m * 2 ^ (e + K).toNat % 2 ^ j = 2 ^ (e + K).toNat * (m % 2 ^ (n - e).toNat) := by
      rw [e1, Nat.pow_add, Nat.mul_comm, Nat.mul_mod_mul_left]
    have e4 : restB (m * 2 ^ (e + K).toNat % 2 ^ j) = restB (m % 2 ^ (n - e).toNat) := by
      rw [e3]; unfold restB; congr 1; simp [Nat.mul_eq_zero]
    rw [e2, e4]
    exact over2_down base m L neg e n v w hbase hm hml hL h (by omega) (by omega) (by omega)
  · have e1 : (e + K).toNat = (e - n).toNat + j := by omega
    have hp : 0 < 2 ^ j := Nat.pow_pos (by decide)
    have e2 : m * 2 ^ (e + K).toNat / 2 ^ j = m * 2 ^ (e - n).toNat := by
      rw [e1, Nat.pow_add, ← Nat.mul_assoc, Nat.mul_div_cancel _ hp]
    have e4 : restB (m * 2 ^ (e + K).toNat % 2 ^ j) = false := by
      rw [e1, Nat.pow_add, ← Nat.mul_assoc, Nat.mul_mod_left]; rfl
    rw [e2, e4]
    exact over2_up base m L neg e n v w hbase hm hml hL h (by omega) (by omega) (by omega)
set_option maxHeartbeats 400000 in
theorem size_exact (neg : Bool) (e : Int) (A : Option Addr) (n c : Nat) (w : World) :
    Calls Tryz.prog 37 #[.agg #[.bool neg, .slice A n c, .int .i64 e]] w fun r w' => r = .returned (.agg #[.bool false, .slice A n c, .int .i64 e]) ∧ Below w.heap.size w w' := by
  go_enter Tryz.func37, Tryz.ntmps37
  go_wp2
  exact bodyPost_ret (v := .agg #[.bool false, .slice A n c, .int .i64 e]) (by simp [results, Tryz.results37, go_sem]) rfl ⟨rfl, below_new (below_new (Below.refl _ _) _) _⟩
set_option maxHeartbeats 2000000 in
theorem round_pos (K base L m : Nat) (neg : Bool) (e : Int) (v : Value) (w : World) (hbase : base ≤ w.heap.size) (hm : mRd.R w base m [v]) (hm0 : m ≠ 0) (he0 : 0 ≤ e + K) (hX : m * 2 ^ (e + K).toNat < 2 ^ L) (hL : L ≤ 536870912) (hK0 : 1074 < K) (hK : K ≤ 536870912) :
    Calls Tryz.prog 24 #[.int .i64 2, .agg #[.bool neg, v, .int .i64 e]] w fun r w' => r = optRet (rdown K (sg neg (m * 2 ^ (e + K).toNat))) ∧ Below w.heap.size w w' := by
  have hXX : (sg neg (m * 2 ^ (e + K).toNat)).natAbs < 2 ^ L := by rw [sg_abs]; exact hX
  have hel := exp_lt hm0 hXX
  have hml := man_lt hXX
  have hbm : bl m ≤ L := bl_le_of_lt hml
  have HM := Lib.hid hm
  obtain ⟨xs, A, c, hv, hc, hr, ht, hval⟩ := hm
  cases hv
  have hlen := man_len ht hval hml
  have hz := (ht.nil_iff (B := B32) (by decide))
  rw [hval] at hz
  have h0 : ((xs.length : Int) == 0) = false := by simp; exact fun h => hm0 (hz.1 (by rw [h]; rfl))
  obtain ⟨bm, hbl⟩ : ∃ b, bl m = b := ⟨_, rfl⟩
  have hLEN := fun W (h : Below w.heap.size w W) => length_calls A _ c 58 base xs W rfl (hr.below h) (by omega) ht
  rw [hval, hbl] at hLEN
  have HLEN := Lib.hid hLEN
  have hs1 : IntKind.i64.wrap ((bm : Int) + e) = (bm : Int) + e := IntWalk.i64_in _ (by omega)
  have hs2 : IntKind.i64.wrap ((bm : Int) + e - 53) = (bm : Int) + e - 53 := IntWalk.i64_in _ (by omega)
  obtain ⟨E, hE⟩ : ∃ E : Int, (if (bm : Int) + e - 53 < -1074 then (-1074 : Int) else (bm : Int) + e - 53) = E := ⟨_, rfl⟩
  have hE1 : -1074 ≤ E := by rw [← hE]; split <;> omega
  have hE2 : E ≤ 1073741824 := by rw [← hE]; split <;> omega
  have hkk : E + K = (shD K (m * 2 ^ (e + K).toNat) : Nat) := by
    unfold shD; rw [bl_mul_pow hm0, hbl, ← hE]; split <;> omega
  have HO := Lib.hid (fun W (h : Below w.heap.size w W) => over2_calls base m L K (shD K (m * 2 ^ (e + K).toNat) - 1) false e (E - 1) _ W (Nat.le_trans hbase h.size) (mRd.below HM.out h) hml (by omega) he0 (by omega) (by omega) (by omega) (by omega) (by omega))
  obtain ⟨hspec, hhb⟩ := rdown_spec (neg := neg) hm0 hK0 rfl rfl rfl
  rw [hspec, ← hkk, show E + K - (K : Int) = E from by omega]
  generalize hh : m * 2 ^ (e + K).toNat / 2 ^ (shD K (m * 2 ^ (e + K).toNat) - 1) = h at *
  generalize hrest : restB (m * 2 ^ (e + K).toNat % 2 ^ (shD K (m * 2 ^ (e + K).toNat) - 1)) = rest at *
  have HT := Lib.hid (fun W => told_calls neg rest h E W hhb hE1 (by omega))
  clear hLEN hz hval ht hr hh hrest hspec hkk hX hXX hel hml hbm hm0 he0
  go_enter Tryz.func24, Tryz.ntmps24
  go_wp2
  go_quiet ((go_at_call 35; exact Calls.quiet_of_same ((HLEN.out _ (by repeat (first | exact Below.refl _ _ | (with_reducible apply below_drewN) | (with_reducible apply Below.drew) | (with_reducible apply below_new)))).mono (fun _ _ h => ⟨h.1, h.2.symm⟩))))
  clear hs1 hs2
  go_wp2_with fail
  refine (size_exact neg e A _ c _).mono ?_
  rintro r w1 ⟨rfl, hb1⟩
  obtain ⟨hc1, hf1⟩ := bcell hb1
  have hW1 : Below w.heap.size w w1 := below_next (by repeat (first | exact Below.refl _ _ | (with_reducible apply below_drewN) | (with_reducible apply below_new))) hb1
  have hn1 : w.heap.size < w1.heap.size := by have := hb1.size; simp [World.drewN] at this; omega
  go_wp2_with fail
  refine (HO.out _ hW1).mono ?_
  rintro r w2 ⟨v', rfl, hm2, hb2⟩
  obtain ⟨ts, C, cc, hvz, hcc, hr2, ht2, hv2⟩ := hm2
  cases hvz
  obtain ⟨hc2, hf2⟩ := bcell hb2
  have hn2 : w.heap.size < w2.heap.size := by have := hb2.size; omega
  have hl2 : ts.length ≤ 2 := mRd_len ht2 hv2 (show h < B32 ^ 2 by simp only [B32]; omega)
  have HWD := Lib.hid (fun W (hw : Below w2.heap.size w2 W) => word_calls C _ cc 58 base ts W rfl (hr2.below hw) hl2)
  rw [hv2] at HWD
  have hW2 : Below w.heap.size w w2 := below_next hW1 hb2
  go_wp2
  go_quiet (first | (go_at_call 39; exact Calls.quiet_of_same ((HWD.out _ (by repeat (first | exact Below.refl _ _ | (with_reducible apply below_drewN) | (with_reducible apply Below.drew) | (with_reducible apply below_new)))).mono (fun _ _ h => ⟨h.1, h.2.symm⟩))) | (go_at_call 38; exact Calls.quiet_of_same ((HT.out _).mono (fun _ _ h => ⟨h.1, h.2.symm⟩))))
  go_wp2
  go_ret2
  exact ⟨rfl, (by repeat (first | exact hW2 | (with_reducible apply below_drewN) | (with_reducible apply below_new)))⟩
theorem round_calls (K base L : Nat) (X : Int) (cs : List Value) (w : World) (hbase : base ≤ w.heap.size) (h : (numRd K).R w base X cs) (hX : X.natAbs < 2 ^ L) (hL : L ≤ 536870912) (hK0 : 1074 < K) (hK : K ≤ 536870912) :
    Calls Tryz.prog 24 #[.int .i64 2, .agg cs.toArray] w fun r w' => r = optRet (rdown K X) ∧ Below w.heap.size w w' := by
  by_cases h0 : X = 0
  · subst h0; exact round_zero K base cs w h
  · obtain ⟨neg, m, e, v, rfl, hm, he, heb, rfl⟩ := h
    have hm0 : m ≠ 0 := fun h => h0 (by rw [h, Nat.zero_mul, sg_zero])
    exact round_pos K base L m neg e v w hbase hm hm0 (he hm0) (by rw [sg_abs] at hX; exact hX) hL hK0 hK
end Go.Proofs.YtikdhkmcdmnadaaGreatFmt
