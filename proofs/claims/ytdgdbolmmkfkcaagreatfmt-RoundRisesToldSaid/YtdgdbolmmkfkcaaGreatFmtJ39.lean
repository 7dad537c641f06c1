/- Walks and plain laws of this seat's functions, part 39: Q4. -/
import Derived.Test.YtdgdbolmmkfkcaaGreatFmtJ35
import Derived.Test.YtdgdbolmmkfkcaaGreatFmtJ37
import Derived.Test.YtdgdbolmmkfkcaaGreatFmtJ38
set_option linter.unusedVariables false
set_option linter.unusedSimpArgs false
namespace Go.Proofs.YtdgdbolmmkfkcaaGreatFmt
open Go.RowKit
attribute [local go_sem ↓] Go.wp_at_zero Go.wp_at_succ

/-! ### RoundBound -/
set_option exponentiation.threshold 3000 in
theorem lexact_calls (c : Int) (u v base : Nat) (hu : u < 18446744073709551616) (hv : v < 18446744073709551616) (hc : c = 1 ∨ c = 2 ∨ c = 3) (w : World) (hbase : base ≤ w.heap.size) :
    Calls Tryz.prog 9 #[.int .i64 c, .float .f64 u, .float .f64 v] w fun e w' => ∃ (neg : Bool) (A : Option Addr) (n k : Nat) (x : Int), e = .returned (.tuple #[.agg #[.bool neg, .slice A n k, .int .i64 x], .bool (fin u && fin v)]) ∧ NumC 2148 w' base (if fin u && fin v then exS c u v else 0) neg A n k x ∧ Below w.heap.size w w' := by
  rcases h : (fin u && fin v) with _ | _
  · exact exact_bad c u v base hu hv h w hbase
  · have h1 : fin u = true := by simp at h; exact h.1
    have h2 : fin v = true := by simp at h; exact h.2
    have e1 : numV u = fv u := by unfold numV; rw [h1, if_pos rfl]
    have e2 : numV v = fv v := by unfold numV; rw [h2, if_pos rfl]
    rw [if_pos rfl]
    rcases hc with rfl | rfl | rfl
    · rw [exS_1, ← e1, ← e2]
      exact exact_p u v base hu hv _ (opc_plus u v base hu hv) h1 h2 w hbase
    · rw [exS_2, ← e1, ← e2]
      exact exact_m u v base hu hv _ (opc_minus u v base hu hv) h1 h2 w hbase
    · rw [exS_3, ← e1, ← e2]
      exact exact_t u v base hu hv _ (opc_times u v base hu hv) h1 h2 w hbase
set_option exponentiation.threshold 6000 in
theorem exV_bd (c : Int) {u v : Nat} (hu : u < 18446744073709551616) (hv : v < 18446744073709551616) (hc : c = 1 ∨ c = 2 ∨ c = 3) : (if fin u && fin v then exS c u v else 0).natAbs < 2 ^ 5000 := by
  rcases h : (fin u && fin v) with _ | _
  · exact Nat.pow_pos (by decide)
  · rw [if_pos rfl]
    have b1 := fv_bd hu (by simp at h; exact h.1)
    have b2 := fv_bd hv (by simp at h; exact h.2)
    have e : ∀ x : Int, x.natAbs < 2 ^ 2099 → (x * ((2 ^ 1074 : Nat) : Int)).natAbs < 2 ^ 5000 := by
      intro x hx
      rw [Int.natAbs_mul, Int.natAbs_natCast]
      have h1 := Nat.mul_lt_mul_of_pos_right hx (Nat.pow_pos (n := 1074) (a := 2) (by decide))
      rw [← Nat.pow_add] at h1
      exact Nat.lt_of_lt_of_le h1 (Nat.pow_le_pow_right (by decide) (by decide))
    have e2 : (2 : Nat) ^ 2099 = 2 ^ 2098 * 2 := Nat.pow_succ _ _
    rcases hc with rfl | rfl | rfl
    · rw [exS_1]; refine e _ ?_
      rw [e2]; generalize (2 : Nat) ^ 2098 = P at *; omega
    · rw [exS_2]; refine e _ ?_
      rw [e2]; generalize (2 : Nat) ^ 2098 = P at *; omega
    · rw [exS_3, Int.natAbs_mul]
      refine Nat.lt_of_lt_of_le (Nat.mul_lt_mul'' b1 b2) ?_
      rw [← Nat.pow_add]
      exact Nat.pow_le_pow_right (by decide) (by decide)
set_option exponentiation.threshold 6000 in
def bdS : Int := ((2 ^ 3172 : Nat) : Int) - ((2 ^ 3118 : Nat) : Int)
set_option exponentiation.threshold 6000 in
theorem bd_plain (X : Int) : (rndS 0 2148 X).isSome = decide (Int.sign ((X.natAbs : Int) - bdS) < 0) := by
  rw [near_some (by decide), Bool.eq_iff_iff]
  simp only [decide_eq_true_eq]
  have e1 : (2 : Nat) ^ 3172 = 9007199254740992 * 2 ^ 3119 := by rw [show (9007199254740992 : Nat) = 2 ^ 53 from by decide, ← Nat.pow_add]
  have e2 : (2 : Nat) ^ (2148 + 971) = 2 ^ 3119 := by rw [show 2148 + 971 = 3119 from rfl]
  have e3 : (2 : Nat) ^ 3119 = 2 * 2 ^ 3118 := by rw [← Nat.pow_succ']
  unfold bdS
  rw [e2, e1]
  rw [e3]
  generalize (2 : Nat) ^ 3118 = P
  generalize X.natAbs = N
  constructor
  · intro h
    rw [Int.sign_eq_neg_one_of_neg (by omega)]; decide
  · intro h
    rcases Int.lt_trichotomy ((N : Int) - (((9007199254740992 * (2 * P) : Nat) : Int) - (P : Int))) 0 with h1 | h1 | h1
    · omega
    · rw [h1] at h; exact absurd h (by decide)
    · rw [Int.sign_eq_one_of_pos h1] at h; exact absurd h (by decide)
set_option exponentiation.threshold 6000 in
theorem whole_c (base : Nat) (w : World) (J : Nat) : Calls Tryz.prog 13 #[.int .i64 1] w fun e w' => ∃ (neg : Bool) (A : Option Addr) (n c : Nat) (x : Int), e = .returned (.agg #[.bool neg, .slice A n c, .int .i64 x]) ∧ NumC J w' base ((2 ^ J : Nat) : Int) neg A n c x ∧ Below w.heap.size w w' := by
  refine (whole2_calls 1 base w (by decide)).mono ?_
  rintro e w' ⟨cs, rfl, hR, hW⟩
  obtain ⟨neg, A, n, c, x, rfl, hN⟩ := NumC.of hR
  have h := hN.raise J
  rw [Nat.zero_add, Int.one_mul] at h
  exact ⟨neg, A, n, c, x, rfl, h, hW⟩
theorem moved_c (K K' base L : Nat) (m X : Int) (neg : Bool) (A : Option Addr) (n c : Nat) (x : Int) (w : World) (h : NumC K w base X neg A n c x) (hK : (K' : Int) = K - m) (hm : -1073741824 ≤ m ∧ m ≤ 1073741824) (hL : L ≤ 1073741824) (hX : X.natAbs < 2 ^ L) (hK1 : K ≤ 1073741824) (hK2 : K' ≤ 1073741824) :
    Calls Tryz.prog 12 #[.agg #[.bool neg, .slice A n c, .int .i64 x], .int .i64 m] w fun e w' => ∃ (neg : Bool) (A : Option Addr) (n c : Nat) (x : Int), e = .returned (.agg #[.bool neg, .slice A n c, .int .i64 x]) ∧ NumC K' w' base X neg A n c x ∧ Below w.heap.size w w' := by
  refine (moved_calls K K' base m X _ w h hK hm L hL hX hK1 hK2).mono ?_
  rintro e w' ⟨cs, rfl, hR, hW⟩
  obtain ⟨neg, A, n, c, x, rfl, hN⟩ := NumC.of hR
  exact ⟨neg, A, n, c, x, rfl, hN, hW⟩
theorem minus_c (K base L : Nat) (X Y : Int) (n1 n2 : Bool) (A1 A2 : Option Addr) (l1 l2 c1 c2 : Nat) (x1 x2 : Int) (w : World) (hb : base ≤ w.heap.size) (hx : NumC K w base X n1 A1 l1 c1 x1) (hy : NumC K w base Y n2 A2 l2 c2 x2) (hX : X.natAbs < 2 ^ L) (hY : Y.natAbs < 2 ^ L) (hL : L ≤ 1073741824) (hK : K ≤ 1073741824) :
    Calls Tryz.prog 11 #[.agg #[.bool n1, .slice A1 l1 c1, .int .i64 x1], .agg #[.bool n2, .slice A2 l2 c2, .int .i64 x2]] w fun e w' => ∃ (neg : Bool) (A : Option Addr) (n c : Nat) (x : Int), e = .returned (.agg #[.bool neg, .slice A n c, .int .i64 x]) ∧ NumC K w' base (X - Y) neg A n c x ∧ Below w.heap.size w w' := by
  refine (minus_num K base L X Y _ _ w hb hx hy hX hY hL hK).mono ?_
  rintro e w' ⟨cs, rfl, hR, hW⟩
  obtain ⟨neg, A, n, c, x, rfl, hN⟩ := NumC.of hR
  exact ⟨neg, A, n, c, x, rfl, hN, hW⟩
theorem size_c (K base : Nat) (X : Int) (n1 : Bool) (A1 : Option Addr) (l1 c1 : Nat) (x1 : Int) (w : World) (hx : NumC K w base X n1 A1 l1 c1 x1) :
    Calls Tryz.prog 15 #[.agg #[.bool n1, .slice A1 l1 c1, .int .i64 x1]] w fun e w' => ∃ (neg : Bool) (A : Option Addr) (n c : Nat) (x : Int), e = .returned (.agg #[.bool neg, .slice A n c, .int .i64 x]) ∧ NumC K w' base (X.natAbs : Int) neg A n c x ∧ Below w.heap.size w w' := by
  refine (size_calls K base X _ w hx).mono ?_
  rintro e w' ⟨cs, rfl, hR, hW⟩
  obtain ⟨neg, A, n, c, x, rfl, hN⟩ := NumC.of hR
  exact ⟨neg, A, n, c, x, rfl, hN, hW⟩
set_option exponentiation.threshold 6000 in
theorem bd_abs : bdS.natAbs < 2 ^ 5000 ∧ ((2 ^ 3172 : Nat) : Int).natAbs < 2 ^ 5000 ∧ ((2 ^ 3118 : Nat) : Int).natAbs < 2 ^ 5000 := by
  have h1 : (2 : Nat) ^ 3172 < 2 ^ 5000 := Nat.pow_lt_pow_right (by decide) (by decide)
  have h2 : (2 : Nat) ^ 3118 < 2 ^ 5000 := Nat.pow_lt_pow_right (by decide) (by decide)
  unfold bdS
  rw [Int.natAbs_natCast, Int.natAbs_natCast]
  have h3 : (2 : Nat) ^ 3118 ≤ 2 ^ 3172 := Nat.pow_le_pow_right (by decide) (by decide)
  generalize (2 : Nat) ^ 3172 = a at *
  generalize (2 : Nat) ^ 3118 = b at *
  generalize (2 : Nat) ^ 5000 = d at *
  omega
set_option maxHeartbeats 4000000 in
set_option maxRecDepth 100000 in
theorem bound_walk (c : Int) (u v : Nat) (hu : u < 18446744073709551616) (hv : v < 18446744073709551616) (w : World) :
    Calls Tryz.prog 3 #[.int .i64 c, .float .f64 u, .float .f64 v] w fun e w' => e = .returned (.bool true) ∧ Below w.heap.size w w' := by
  have hm1 : -2 ≤ c.tmod 3 ∧ c.tmod 3 ≤ 2 := by
    have := Int.tmod_lt_of_pos c (show (0 : Int) < 3 by decide)
    have := Int.lt_tmod_of_pos c (show (0 : Int) < 3 by decide)
    omega
  have HUV := Lib.hid (And.intro hu hv)
  clear hu hv
  go_enter Tryz.func3, Tryz.ntmps3
  go_wp2_with fail
  obtain ⟨k, hk⟩ : ∃ k, 1 + c.tmod 3 % 3 = k := ⟨_, rfl⟩
  have hk3 : k = 1 ∨ k = 2 ∨ k = 3 := by omega
  rw [hk]
  have HK := Lib.hid hk3
  clear hk hk3 hm1
  refine (lexact_calls k u v w.heap.size HUV.out.1 HUV.out.2 HK.out w (Nat.le_refl _)).mono ?_
  rintro e w1 ⟨n1, A1, l1, c1, x1, rfl, hR, hW⟩
  have hxb := exV_bd k HUV.out.1 HUV.out.2 HK.out
  have hok : (askS k 0 u v).isSome = ((fin u && fin v) && decide (Int.sign (((if fin u && fin v then exS k u v else 0).natAbs : Int) - bdS) < 0)) := by
    unfold askS pairB
    rcases h : (fin u && fin v) with _ | _
    · rfl
    · rw [show (true && decide (0 ≤ (0 : Int) ∧ (0 : Int) ≤ 2)) = true from by decide, if_pos rfl, if_pos rfl, Bool.true_and]
      exact bd_plain _
  obtain ⟨f, hf⟩ : ∃ f, (fin u && fin v) = f := ⟨_, rfl⟩
  rw [hf] at hR hxb hok ⊢
  obtain ⟨X, hX⟩ : ∃ X, (if f = true then exS k u v else 0) = X := ⟨_, rfl⟩
  rw [hX] at hR hxb hok
  have HXB := Lib.hid hxb
  have HOK := Lib.hid hok
  have hB := below_new (Below.refl w1.heap.size w1) (.cells #[.bool n1, .slice A1 l1 c1, .int .i64 x1] 25)
  have H1 : Hid (Blk (w1.alloc (.cells #[.bool n1, .slice A1 l1 c1, .int .i64 x1] 25)) w1.heap.size 25 [.bool n1, .slice A1 l1 c1, .int .i64 x1] ∧ NumC 2148 (w1.alloc (.cells #[.bool n1, .slice A1 l1 c1, .int .i64 x1] 25)) w.heap.size X n1 A1 l1 c1 x1 ∧ Below w.heap.size w (w1.alloc (.cells #[.bool n1, .slice A1 l1 c1, .int .i64 x1] 25))) :=
    ⟨num_blk _ _ _ _ _ _, hR.below hB, below_next hW (hB)⟩
  clear hR hW hB hxb hok hf hX
  go_wp2_with fail
  refine (asked_calls k 0 u v HUV.out.1 HUV.out.2 HK.out _).mono ?_
  rintro e w2 ⟨rfl, hW⟩
  have H2 : Hid (Blk w2 w1.heap.size 25 [.bool n1, .slice A1 l1 c1, .int .i64 x1] ∧ NumC 2148 w2 w.heap.size X n1 A1 l1 c1 x1 ∧ Below w.heap.size w w2) := ⟨H1.out.1.below' hW, H1.out.2.1.below hW, below_next H1.out.2.2 hW⟩
  clear hW
  unfold fRet2
  obtain ⟨okb, hokb⟩ : ∃ b, (askS k 0 u v).isSome = b := ⟨_, rfl⟩
  obtain ⟨okv, hokv⟩ : ∃ b, (askS k 0 u v).getD 0 = b := ⟨_, rfl⟩
  rw [hokb, hokv]
  rw [hokb] at HOK
  clear hokb hokv H1
  go_wp2_with fail
  refine (whole_c w.heap.size _ 3172).mono ?_
  rintro e w3 ⟨n3, A3, l3, c3, x3, rfl, hR, hW⟩
  have H3 := Lib.hid (And.intro hR hW)
  clear hR hW
  go_wp2_with fail
  refine (moved_c 3172 2148 w.heap.size 5000 1024 _ n3 A3 l3 c3 x3 w3 H3.out.1 (by decide) (by decide) (by decide) bd_abs.2.1 (by decide) (by decide)).mono ?_
  rintro e w4 ⟨n4, A4, l4, c4, x4, rfl, hR, hW⟩
  have H4 := Lib.hid (And.intro hR (below_next H3.out.2 hW))
  clear hR hW H3
  go_wp2_with fail
  refine (whole_c w.heap.size _ 3118).mono ?_
  rintro e w5 ⟨n5, A5, l5, c5, x5, rfl, hR, hW⟩
  have H5 := Lib.hid (And.intro hR (And.intro (H4.out.1.below hW) (below_next H4.out.2 hW)))
  clear hR hW H4
  go_wp2_with fail
  refine (moved_c 3118 2148 w.heap.size 5000 970 _ n5 A5 l5 c5 x5 w5 H5.out.1 (by decide) (by decide) (by decide) bd_abs.2.2 (by decide) (by decide)).mono ?_
  rintro e w6 ⟨n6, A6, l6, c6, x6, rfl, hR, hW⟩
  have H6 := Lib.hid (And.intro hR (And.intro (H5.out.2.1.below hW) (below_next H5.out.2.2 hW)))
  clear hR hW H5
  go_wp2_with fail
  refine (minus_c 2148 w.heap.size 5000 _ _ n4 n6 A4 A6 l4 l6 c4 c6 x4 x6 w6 (Nat.le_trans H2.out.2.2.size H6.out.2.2.size) H6.out.2.1 H6.out.1 bd_abs.2.1 bd_abs.2.2 (by decide) (by decide)).mono ?_
  rintro e w7 ⟨n7, A7, l7, c7, x7, rfl, hR, hW⟩
  have hR' : NumC 2148 w7 w.heap.size bdS n7 A7 l7 c7 x7 := hR
  have hW7 := below_next H6.out.2.2 hW
  have hB := below_new (Below.refl w7.heap.size w7) (.cells #[.bool n7, .slice A7 l7 c7, .int .i64 x7] 25)
  have hW8 := below_next hW7 hB
  have H8 : Hid (Blk (w7.alloc (.cells #[.bool n7, .slice A7 l7 c7, .int .i64 x7] 25)) w7.heap.size 25 [.bool n7, .slice A7 l7 c7, .int .i64 x7] ∧ Blk (w7.alloc (.cells #[.bool n7, .slice A7 l7 c7, .int .i64 x7] 25)) w1.heap.size 25 [.bool n1, .slice A1 l1 c1, .int .i64 x1] ∧ NumC 2148 (w7.alloc (.cells #[.bool n7, .slice A7 l7 c7, .int .i64 x7] 25)) w.heap.size X n1 A1 l1 c1 x1 ∧ NumC 2148 (w7.alloc (.cells #[.bool n7, .slice A7 l7 c7, .int .i64 x7] 25)) w.heap.size bdS n7 A7 l7 c7 x7 ∧ Below w.heap.size w (w7.alloc (.cells #[.bool n7, .slice A7 l7 c7, .int .i64 x7] 25))) :=
    ⟨num_blk _ _ _ _ _ _, H2.out.1.below' hW8, H2.out.2.1.below hW8, hR'.below hB, below_next H2.out.2.2 hW8⟩
  clear hR hR' hW hW7 hB hW8 H6 H2
  go_wp2_with fail
  obtain ⟨w8, hw8⟩ : ∃ W, w7.alloc (.cells #[.bool n7, .slice A7 l7 c7, .int .i64 x7] 25) = W := ⟨_, rfl⟩
  rw [hw8] at H8 ⊢
  clear hw8
  obtain ⟨⟨y0, y1, y2⟩, _⟩ := three H8.out.2.1
  obtain ⟨⟨z0, z1, z2⟩, _⟩ := three H8.out.1
  cases f
  · obtain rfl : okb = false := by rw [HOK.out]; rfl
    go_region_with (go_at_call 16; refine (started_calls _).mono ?_; rintro e w11 ⟨rfl, hW⟩; have H11 : Hid (Below w.heap.size w w11) := below_next H8.out.2.2.2.2 (Below.trans (by repeat (first | exact Below.refl _ _ | (with_reducible apply below_drewN) | (with_reducible apply Below.drew))) hW); clear hW)
    all_goals (
      go_wp2
      go_ret
      exact ⟨rfl, H11.out⟩)
  · have HSZ := Lib.hid (fun (W : World) (hW : Below w8.heap.size w8 W) => size_c 2148 w.heap.size X n1 A1 l1 c1 x1 W (H8.out.2.2.1.below hW))
    obtain ⟨s, hs⟩ : ∃ s, Int.sign ((X.natAbs : Int) - bdS) = s := ⟨_, rfl⟩
    have hs3 : s = -1 ∨ s = 0 ∨ s = 1 := by
      rw [← hs]
      rcases Int.lt_trichotomy ((X.natAbs : Int) - bdS) 0 with h | h | h
      · exact .inl (Int.sign_eq_neg_one_of_neg h)
      · rw [h]; exact .inr (.inl rfl)
      · exact .inr (.inr (Int.sign_eq_one_of_pos h))
    have HS0 := Lib.hid hs
    rw [hs] at HOK
    clear hs
    rcases hs3 with rfl | rfl | rfl
    · obtain rfl : okb = true := by rw [HOK.out]; rfl
      go_region_with (first | (go_at_call 15; refine (HSZ.out _ (by repeat (first | exact Below.refl _ _ | (with_reducible apply below_drewN) | (with_reducible apply Below.drew)))).mono ?_; rintro e w9 ⟨n9, A9, l9, c9, x9, rfl, hR, hW⟩; have hb9 : Below w8.heap.size w8 w9 := Below.trans (by repeat (first | exact Below.refl _ _ | (with_reducible apply below_drewN) | (with_reducible apply Below.drew))) hW; have H9 : Hid (NumC 2148 w9 w.heap.size (X.natAbs : Int) n9 A9 l9 c9 x9 ∧ NumC 2148 w9 w.heap.size bdS n7 A7 l7 c7 x7 ∧ Blk w9 w7.heap.size 25 [.bool n7, .slice A7 l7 c7, .int .i64 x7] ∧ Below w.heap.size w w9) := ⟨hR, H8.out.2.2.2.1.below hb9, H8.out.1.below' hb9, below_next H8.out.2.2.2.2 hb9⟩; clear hR hW hb9; obtain ⟨⟨d0, d1, d2⟩, _⟩ := three H9.out.2.2.1; have HCM := Lib.hid (fun (W : World) (hW : Below w9.heap.size w9 W) => cmp_num 2148 w.heap.size 5000 (X.natAbs : Int) bdS _ _ W (Nat.le_trans H9.out.2.2.2.size hW.size) (H9.out.1.below hW) (H9.out.2.1.below hW) (by rw [Int.natAbs_natCast]; exact HXB.out) bd_abs.1 (by decide) (by decide)); rw [HS0.out] at HCM) | (go_at_call 14; refine (HCM.out _ (by repeat (first | exact Below.refl _ _ | (with_reducible apply below_drewN) | (with_reducible apply Below.drew)))).mono ?_; rintro e w10 ⟨rfl, hW⟩; have H10 : Hid (Below w.heap.size w w10) := below_next H9.out.2.2.2 (Below.trans (by repeat (first | exact Below.refl _ _ | (with_reducible apply below_drewN) | (with_reducible apply Below.drew))) hW); clear hW) | (go_at_call 16; refine (started_calls _).mono ?_; rintro e w11 ⟨rfl, hW⟩; have H11 : Hid (Below w.heap.size w w11) := below_next H10.out (Below.trans (by repeat (first | exact Below.refl _ _ | (with_reducible apply below_drewN) | (with_reducible apply Below.drew))) hW); clear hW))
      all_goals (
        go_wp2
        go_ret
        exact ⟨rfl, H11.out⟩)
    · obtain rfl : okb = false := by rw [HOK.out]; rfl
      go_region_with (first | (go_at_call 15; refine (HSZ.out _ (by repeat (first | exact Below.refl _ _ | (with_reducible apply below_drewN) | (with_reducible apply Below.drew)))).mono ?_; rintro e w9 ⟨n9, A9, l9, c9, x9, rfl, hR, hW⟩; have hb9 : Below w8.heap.size w8 w9 := Below.trans (by repeat (first | exact Below.refl _ _ | (with_reducible apply below_drewN) | (with_reducible apply Below.drew))) hW; have H9 : Hid (NumC 2148 w9 w.heap.size (X.natAbs : Int) n9 A9 l9 c9 x9 ∧ NumC 2148 w9 w.heap.size bdS n7 A7 l7 c7 x7 ∧ Blk w9 w7.heap.size 25 [.bool n7, .slice A7 l7 c7, .int .i64 x7] ∧ Below w.heap.size w w9) := ⟨hR, H8.out.2.2.2.1.below hb9, H8.out.1.below' hb9, below_next H8.out.2.2.2.2 hb9⟩; clear hR hW hb9; obtain ⟨⟨d0, d1, d2⟩, _⟩ := three H9.out.2.2.1; have HCM := Lib.hid (fun (W : World) (hW : Below w9.heap.size w9 W) => cmp_num 2148 w.heap.size 5000 (X.natAbs : Int) bdS _ _ W (Nat.le_trans H9.out.2.2.2.size hW.size) (H9.out.1.below hW) (H9.out.2.1.below hW) (by rw [Int.natAbs_natCast]; exact HXB.out) bd_abs.1 (by decide) (by decide)); rw [HS0.out] at HCM) | (go_at_call 14; refine (HCM.out _ (by repeat (first | exact Below.refl _ _ | (with_reducible apply below_drewN) | (with_reducible apply Below.drew)))).mono ?_; rintro e w10 ⟨rfl, hW⟩; have H10 : Hid (Below w.heap.size w w10) := below_next H9.out.2.2.2 (Below.trans (by repeat (first | exact Below.refl _ _ | (with_reducible apply below_drewN) | (with_reducible apply Below.drew))) hW); clear hW) | (go_at_call 16; refine (started_calls _).mono ?_; rintro e w11 ⟨rfl, hW⟩; have H11 : Hid (Below w.heap.size w w11) := below_next H10.out (Below.trans (by repeat (first | exact Below.refl _ _ | (with_reducible apply below_drewN) | (with_reducible apply Below.drew))) hW); clear hW))
      all_goals (
        go_wp2
        go_ret
        exact ⟨rfl, H11.out⟩)
    · obtain rfl : okb = false := by rw [HOK.out]; rfl
      go_region_with (first | (go_at_call 15; refine (HSZ.out _ (by repeat (first | exact Below.refl _ _ | (with_reducible apply below_drewN) | (with_reducible apply Below.drew)))).mono ?_; rintro e w9 ⟨n9, A9, l9, c9, x9, rfl, hR, hW⟩; have hb9 : Below w8.heap.size w8 w9 := Below.trans (by repeat (first | exact Below.refl _ _ | (with_reducible apply below_drewN) | (with_reducible apply Below.drew))) hW; have H9 : Hid (NumC 2148 w9 w.heap.size (X.natAbs : Int) n9 A9 l9 c9 x9 ∧ NumC 2148 w9 w.heap.size bdS n7 A7 l7 c7 x7 ∧ Blk w9 w7.heap.size 25 [.bool n7, .slice A7 l7 c7, .int .i64 x7] ∧ Below w.heap.size w w9) := ⟨hR, H8.out.2.2.2.1.below hb9, H8.out.1.below' hb9, below_next H8.out.2.2.2.2 hb9⟩; clear hR hW hb9; obtain ⟨⟨d0, d1, d2⟩, _⟩ := three H9.out.2.2.1; have HCM := Lib.hid (fun (W : World) (hW : Below w9.heap.size w9 W) => cmp_num 2148 w.heap.size 5000 (X.natAbs : Int) bdS _ _ W (Nat.le_trans H9.out.2.2.2.size hW.size) (H9.out.1.below hW) (H9.out.2.1.below hW) (by rw [Int.natAbs_natCast]; exact HXB.out) bd_abs.1 (by decide) (by decide)); rw [HS0.out] at HCM) | (go_at_call 14; refine (HCM.out _ (by repeat (first | exact Below.refl _ _ | (with_reducible apply below_drewN) | (with_reducible apply Below.drew)))).mono ?_; rintro e w10 ⟨rfl, hW⟩; have H10 : Hid (Below w.heap.size w w10) := below_next H9.out.2.2.2 (Below.trans (by repeat (first | exact Below.refl _ _ | (with_reducible apply below_drewN) | (with_reducible apply Below.drew))) hW); clear hW) | (go_at_call 16; refine (started_calls _).mono ?_; rintro e w11 ⟨rfl, hW⟩; have H11 : Hid (Below w.heap.size w w11) := below_next H10.out (Below.trans (by repeat (first | exact Below.refl _ _ | (with_reducible apply below_drewN) | (with_reducible apply Below.drew))) hW); clear hW))
      all_goals (
        go_wp2
        go_ret
        exact ⟨rfl, H11.out⟩)
end Go.Proofs.YtdgdbolmmkfkcaaGreatFmt
