import Derived.Test.YtogjodnmegafdaaGreatFmtKQ13
set_option linter.unusedVariables false
set_option linter.unusedSimpArgs false
namespace Go.Proofs.YtogjodnmegafdaaGreatFmt
open Go.RowKit
attribute [local go_sem ↓] Go.wp_at_zero Go.wp_at_succ

/-! ### ref2.Scale, RoundScales -/
set_option exponentiation.threshold 30000 in
theorem mv_bd {x : Int} (h : x.natAbs < 2 ^ 2098) : (x * ((2 ^ 5126 : Nat) : Int)).natAbs < 2 ^ 20000 := by
  rw [Int.natAbs_mul, Int.natAbs_natCast]
  have h1 := Nat.mul_lt_mul_of_pos_right h (Nat.pow_pos (n := 5126) (a := 2) (by decide))
  rw [← Nat.pow_add] at h1
  exact Nat.lt_of_lt_of_le h1 (Nat.pow_le_pow_right (by decide) (by decide))
set_option exponentiation.threshold 30000 in
set_option maxHeartbeats 1000000 in
set_option maxRecDepth 100000 in
theorem scale2_calls (d : Int) (u : Nat) (n : Int) (hu : u < 18446744073709551616) (w : World) :
    Calls Tryz.prog 55 #[.int .i64 d, .int .u64 u, .int .i64 n] w fun e w' => e = optRet (scaleS 5000 d u n) ∧ Below w.heap.size w w' := by
  have HO := Lib.hid (of_calls u w.heap.size w hu)
  rcases hf : fin u with _ | _
  · rw [hf] at HO
    have hs : scaleS 5000 d u n = none := scale_none (by unfold pairB; rw [hf]; rfl)
    rw [hs]
    clear hu hf hs
    go_enter Tryz.func55, Tryz.ntmps55
    go_wp2_with fail
    refine HO.out.mono ?_
    rintro e w1 ⟨n1, A1, l1, k1, x1, rfl, hR, hW⟩
    have H1 := Lib.hid (below_next hW (below_new (Below.refl w1.heap.size w1) (.cells #[.bool n1, .slice A1 l1 k1, .int .i64 x1] 25)))
    clear hR hW HO
    go_wp2
    go_ret2
    exact ⟨rfl, H1.out⟩
  · rw [hf] at HO
    have hcs : (n < -5000 ∧ clampS 5000 n = -5000) ∨ ((-5000 ≤ n ∧ n ≤ 5000) ∧ clampS 5000 n = n) ∨ (5000 < n ∧ clampS 5000 n = 5000) := by unfold clampS; omega
    have hcb := clamp_bd (b := 5000) (n := n) (by decide)
    obtain ⟨K, hK⟩ : ∃ K : Nat, (K : Int) = 6200 - clampS 5000 n := ⟨(6200 - clampS 5000 n).toNat, by omega⟩
    have HV : Hid (rndD d K (numV u * ((2 ^ 5126 : Nat) : Int)) = scaleS 5000 d u n) := by
      unfold rndD numV
      rw [Hid, hf, if_pos rfl]
      by_cases hd : 0 ≤ d ∧ d ≤ 2
      · rw [if_pos hd, scale_at (pair_zero hf hd) hK]
      · rw [if_neg hd, scale_none]
        unfold pairB; rw [decide_eq_false hd, Bool.and_false]
    have HXB := Lib.hid (mv_bd (numV_bd hu))
    obtain ⟨k, hk⟩ : ∃ k, clampS 5000 n = k := ⟨_, rfl⟩
    rw [hk] at hcs hcb hK
    have HKK : Hid (((K : Nat) : Int) = ((6200 : Nat) : Int) - k) := hK
    have HKB : Hid ((-1073741824 ≤ k ∧ k ≤ 1073741824) ∧ K ≤ 1073741824 ∧ 1074 < K ∧ K ≤ 536870912) := ⟨by omega, by omega, by omega, by omega⟩
    obtain ⟨o, ho⟩ : ∃ o, scaleS 5000 d u n = o := ⟨_, rfl⟩
    rw [ho] at HV ⊢
    clear hu hf hK hcb hk ho
    rcases hcs with ⟨hc, rfl⟩ | ⟨⟨hc, hc2⟩, rfl⟩ | ⟨hc, rfl⟩
    · have d1 : ¬ (-5000 < n) := by omega
      have d2 : ¬ (-5000 ≤ n) := by omega
      go_enter Tryz.func55, Tryz.ntmps55
      go_wp2_with fail
      refine HO.out.mono ?_
      rintro e w1 ⟨n1, A1, l1, k1, x1, rfl, hR, hW⟩
      have hB := below_new (Below.refl w1.heap.size w1) (.cells #[.bool n1, .slice A1 l1 k1, .int .i64 x1] 25)
      have H1 := Lib.hid (And.intro (num_blk w1 n1 A1 l1 k1 x1) (And.intro ((hR.below hB).raise 5126) (below_next hW hB)))
      obtain ⟨⟨c0, c1, c2⟩, _⟩ := three H1.out.1
      clear hR hW HO hB
      go_wp2_with fail
      refine (moved_c3 6200 K w.heap.size 20000 (-5000) (numV u * ((2 ^ 5126 : Nat) : Int)) n1 A1 l1 k1 x1 _ H1.out.2.1 HKK.out HKB.out.1 (by decide) HXB.out (by decide) HKB.out.2.1).mono ?_
      rintro e w2 ⟨n2, A2, l2, k2, x2, rfl, hR, hW⟩
      have H2 := Lib.hid (And.intro hR (below_next H1.out.2.2 hW))
      clear hR hW
      go_wp2_with fail
      refine (round_c d K w.heap.size 20000 _ n2 A2 l2 k2 x2 w2 H2.out.2.size H2.out.1 HXB.out (by decide) HKB.out.2.2.1 HKB.out.2.2.2).mono ?_
      rintro e w3 ⟨rfl, hW⟩
      have H3 := Lib.hid (below_next H2.out.2 hW)
      clear hW
      rw [HV.out]
      unfold optRet
      go_wp2
      go_ret2
      exact ⟨rfl, H3.out⟩
    · have d1 : ¬ (k < -5000) := by omega
      have d2 : ¬ (5000 < k) := by omega
      go_enter Tryz.func55, Tryz.ntmps55
      go_wp2_with fail
      refine HO.out.mono ?_
      rintro e w1 ⟨n1, A1, l1, k1, x1, rfl, hR, hW⟩
      have hB := below_new (Below.refl w1.heap.size w1) (.cells #[.bool n1, .slice A1 l1 k1, .int .i64 x1] 25)
      have H1 := Lib.hid (And.intro (num_blk w1 n1 A1 l1 k1 x1) (And.intro ((hR.below hB).raise 5126) (below_next hW hB)))
      obtain ⟨⟨c0, c1, c2⟩, _⟩ := three H1.out.1
      clear hR hW HO hB
      go_wp2_with fail
      refine (moved_c3 6200 K w.heap.size 20000 k (numV u * ((2 ^ 5126 : Nat) : Int)) n1 A1 l1 k1 x1 _ H1.out.2.1 HKK.out HKB.out.1 (by decide) HXB.out (by decide) HKB.out.2.1).mono ?_
      rintro e w2 ⟨n2, A2, l2, k2, x2, rfl, hR, hW⟩
      have H2 := Lib.hid (And.intro hR (below_next H1.out.2.2 hW))
      clear hR hW
      go_wp2_with fail
      refine (round_c d K w.heap.size 20000 _ n2 A2 l2 k2 x2 w2 H2.out.2.size H2.out.1 HXB.out (by decide) HKB.out.2.2.1 HKB.out.2.2.2).mono ?_
      rintro e w3 ⟨rfl, hW⟩
      have H3 := Lib.hid (below_next H2.out.2 hW)
      clear hW
      rw [HV.out]
      unfold optRet
      go_wp2
      go_ret2
      exact ⟨rfl, H3.out⟩
    · have d1 : ¬ (n < -5000) := by omega
      have d2 : ¬ (n ≤ 5000) := by omega
      have d3 : -5000 ≤ n := by omega
      have d4 : -5000 < n := by omega
      have d5 : ¬ (n < 5000) := by omega
      go_enter Tryz.func55, Tryz.ntmps55
      go_wp2_with fail
      refine HO.out.mono ?_
      rintro e w1 ⟨n1, A1, l1, k1, x1, rfl, hR, hW⟩
      have hB := below_new (Below.refl w1.heap.size w1) (.cells #[.bool n1, .slice A1 l1 k1, .int .i64 x1] 25)
      have H1 := Lib.hid (And.intro (num_blk w1 n1 A1 l1 k1 x1) (And.intro ((hR.below hB).raise 5126) (below_next hW hB)))
      obtain ⟨⟨c0, c1, c2⟩, _⟩ := three H1.out.1
      clear hR hW HO hB
      go_wp2_with fail
      refine (moved_c3 6200 K w.heap.size 20000 5000 (numV u * ((2 ^ 5126 : Nat) : Int)) n1 A1 l1 k1 x1 _ H1.out.2.1 HKK.out HKB.out.1 (by decide) HXB.out (by decide) HKB.out.2.1).mono ?_
      rintro e w2 ⟨n2, A2, l2, k2, x2, rfl, hR, hW⟩
      have H2 := Lib.hid (And.intro hR (below_next H1.out.2.2 hW))
      clear hR hW
      go_wp2_with fail
      refine (round_c d K w.heap.size 20000 _ n2 A2 l2 k2 x2 w2 H2.out.2.size H2.out.1 HXB.out (by decide) HKB.out.2.2.1 HKB.out.2.2.2).mono ?_
      rintro e w3 ⟨rfl, hW⟩
      have H3 := Lib.hid (below_next H2.out.2 hW)
      clear hW
      rw [HV.out]
      unfold optRet
      go_wp2
      go_ret2
      exact ⟨rfl, H3.out⟩
set_option maxHeartbeats 1000000 in
set_option maxRecDepth 100000 in
theorem one5_calls (d : Int) (u : Nat) (n : Int) (hu : u < 18446744073709551616) (w : World) :
    Calls Tryz.prog 29 #[.int .i64 5, .int .i64 d, .float .f64 u, .float .f64 0, .int .i64 n] w fun e w' => e = .returned (.bool true) ∧ Below w.heap.size w w' := by
  have HB1 := Lib.hid (fun W => apibits_calls u W)
  have HB2 := Lib.hid (fun W => apibits_calls 0 W)
  have HN := Lib.hid (fun W => rscale_calls d u n hu W)
  have HR := Lib.hid (fun W => scale2_calls d u n hu W)
  rw [← scale_same d n hu] at HR
  obtain ⟨o, ho⟩ : ∃ o, scaleS 4000 d u n = o := ⟨_, rfl⟩
  rw [ho] at HN HR
  obtain ⟨a, ha⟩ : ∃ a, o.getD 0 = a := ⟨_, rfl⟩
  obtain ⟨b, hb⟩ : ∃ a, o.isSome = a := ⟨_, rfl⟩
  unfold fRet2 at HN
  unfold optRet at HR
  rw [ha, hb] at HN HR
  have HS := Lib.hid (fun W => same_calls a b W)
  clear ho ha hb hu
  go_enter Tryz.func29, Tryz.ntmps29
  go_wp2_with fail
  refine (HB1.out _).mono ?_
  rintro e w' ⟨rfl, rfl⟩
  go_wp2_with fail
  refine (HB2.out _).mono ?_
  rintro e w' ⟨rfl, rfl⟩
  go_wp2_with fail
  refine (HN.out _).mono ?_
  rintro e w0 ⟨rfl, hW⟩
  have H0 := Lib.hid hW
  clear hW
  go_wp2_with fail
  refine (HR.out _).mono ?_
  rintro e w1 ⟨rfl, hW⟩
  have H1 := Lib.hid (below_next H0.out hW)
  clear hW
  go_wp2_with fail
  refine (HS.out _).mono ?_
  rintro e w' ⟨rfl, rfl⟩
  go_wp2
  go_ret
  exact ⟨rfl, H1.out⟩
set_option maxHeartbeats 1000000 in
set_option maxRecDepth 100000 in
theorem scales_walk (d : Int) (u : Nat) (n : Int) (hu : u < 18446744073709551616) (w : World) :
    Calls Tryz.prog 9 #[.int .i64 d, .float .f64 u, .int .i64 n] w fun e w' => e = .returned (.bool true) ∧ Below w.heap.size w w' := by
  have HO1 := Lib.hid (fun W => one5_calls d u n hu W)
  clear hu
  go_enter Tryz.func9, Tryz.ntmps9
  go_wp2_with fail
  refine (HO1.out _).mono ?_
  rintro e w1 ⟨rfl, hW⟩
  have H1 := Lib.hid hW
  clear hW
  go_wp2_with fail
  refine (started_calls _).mono ?_
  rintro e w4 ⟨rfl, hW⟩
  have H4 := Lib.hid (below_next H1.out hW)
  clear hW
  go_wp2
  go_ret
  exact ⟨rfl, H4.out⟩
end Go.Proofs.YtogjodnmegafdaaGreatFmt
