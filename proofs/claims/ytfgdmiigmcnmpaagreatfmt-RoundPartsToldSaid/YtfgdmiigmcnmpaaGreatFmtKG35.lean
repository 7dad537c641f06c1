import Derived.Test.YtfgdmiigmcnmpaaGreatFmtKG34
set_option linter.unusedVariables false
set_option linter.unusedSimpArgs false
namespace Go.Proofs.YtfgdmiigmcnmpaaGreatFmt
open Go.RowKit
attribute [local go_sem ↓] Go.wp_at_zero Go.wp_at_succ

/-! ### round.Sum2, Prod2 (as Add, Mul: G25, G26) -/
theorem part_false {c : Int} {u v : Nat} (h : pairB 0 u v = false) : partS c u v = none := by unfold partS; rw [h, if_neg (by decide)]
theorem part_true {c : Int} {u v : Nat} (h : pairB 0 u v = true) : partS c u v = restS 2148 (exS c u v) := by unfold partS; rw [if_pos h]
set_option exponentiation.threshold 6000 in
set_option maxHeartbeats 4000000 in
set_option maxRecDepth 100000 in
theorem rsum2_calls (u v : Nat) (hu : u < 18446744073709551616) (hv : v < 18446744073709551616) (w : World) :
    Calls Tryz.prog 16 #[.float .f64 u, .float .f64 v] w fun e w' => e = fRet3 (partS 1 u v) ∧ Below w.heap.size w w' := by
  have HP := Lib.hid (fun W => pair_calls 0 u v hu hv W)
  obtain ⟨b, hb⟩ : ∃ b, pairB 0 u v = b := ⟨_, rfl⟩
  rw [hb] at HP
  cases b
  · have HR : Hid (partS 1 u v = none) := part_false hb
    clear hb hu hv
    go_enter Tryz.func16, Tryz.ntmps16
    go_wp2_with fail
    refine (HP.out _).mono ?_
    rintro e w' ⟨rfl, rfl⟩
    go_wp2
    go_ret3
    exact ⟨ret3_none HR.out, Below.refl _ _⟩
  · obtain ⟨fu, fv', hd1, hd2⟩ := pairB_true hb
    have hbu := fv_bd hu fu
    have hbv := fv_bd hv fv'
    have HEU := Lib.hid (fun W => exact66 u hu fu W)
    have HEV := Lib.hid (fun W => exact66 v hv fv' W)
    have HSP := Lib.hid (fun W => setprec_calls w.heap.size W)
    have HAD := Lib.hid (fun W b1 b2 (hz : Blk W w.heap.size 64 (fC 2300 0 0 false (.slice none 0 0) 0)) (hx : FVal W 1140 1 b1 (fv u * ((2 ^ 66 : Nat) : Int))) (hy : FVal W 1140 1 b2 (fv v * ((2 ^ 66 : Nat) : Int))) (h1 : b1 ≠ w.heap.size) (h2 : b2 ≠ w.heap.size) => addf_calls w.heap.size b1 b2 1140 2164 _ _ W hz hx hy h1 h2 (scale_bd hbu) (scale_bd hbv) (by decide) (by decide))
    have HT := Lib.hid (fun W (hx : FVal W 1204 35 w.heap.size ((fv u * ((2 ^ 66 : Nat) : Int) + fv v * ((2 ^ 66 : Nat) : Int)) * ((2 ^ 64 : Nat) : Int))) => rrest_calls w.heap.size 1204 35 _ W hx (by decide) (.inr (add_bdR (scale_bd hbu) (scale_bd hbv))) (Nat.lt_trans (add_bdR (scale_bd hbu) (scale_bd hbv)) (Nat.pow_lt_pow_right (by decide) (by decide))) (by decide) (by decide))
    have HVAL : Hid (restS 1204 ((fv u * ((2 ^ 66 : Nat) : Int) + fv v * ((2 ^ 66 : Nat) : Int)) * ((2 ^ 64 : Nat) : Int)) = partS 1 u v) := by
      rw [Hid, part_true hb, exS_1]; exact add_valR _ _
    have HN := Lib.hid (float_new w)
    have HW := Lib.hid (below_new (Below.refl w.heap.size w) (.cells #[.int .u32 0, .int .u8 0, .int .i8 0, .int .u8 0, .bool false, .slice none 0 0, .int .i32 0] 64))
    obtain ⟨o, ho⟩ : ∃ o, partS 1 u v = o := ⟨_, rfl⟩
    rw [ho] at HVAL ⊢
    clear hb hu hv fu fv' hd1 hd2 hbu hbv ho
    go_enter Tryz.func16, Tryz.ntmps16
    go_wp2_with fail
    refine (HP.out _).mono ?_
    rintro e w' ⟨rfl, rfl⟩
    go_wp2_with fail
    refine (HSP.out _ HN.out).mono ?_
    rintro e w1 ⟨rfl, hz1, hW1⟩
    have H1 := Lib.hid (And.intro hz1 (HW.out.trans hW1))
    clear hz1 hW1
    go_wp2_with fail
    refine (HEU.out _).mono ?_
    rintro e w2 ⟨rfl, hx2, hW2⟩
    have H2 := Lib.hid (And.intro hx2 hW2)
    clear hx2 hW2
    go_wp2_with fail
    refine (HEV.out _).mono ?_
    rintro e w3 ⟨rfl, hy3, hW3⟩
    have H3 := Lib.hid (And.intro hy3 hW3)
    clear hy3 hW3
    go_wp2_with fail
    have hs1 : w.heap.size < w1.heap.size := H1.out.1.lt
    have hs2 : w1.heap.size < w2.heap.size := H2.out.1.lt
    refine (HAD.out w3 w1.heap.size w2.heap.size ((H1.out.1.below' H2.out.2).below' H3.out.2) (H2.out.1.keep H3.out.2) H3.out.1 (by omega) (by omega)).mono ?_
    rintro e w4 ⟨rfl, hf, hW4⟩
    have H4 : Hid (FVal w4 1204 35 w.heap.size ((fv u * ((2 ^ 66 : Nat) : Int) + fv v * ((2 ^ 66 : Nat) : Int)) * ((2 ^ 64 : Nat) : Int)) ∧ Below w.heap.size w w4) := ⟨hf, ((H1.out.2.trans (H2.out.2.mono (Nat.le_of_lt hs1))).trans (H3.out.2.mono (by omega))).trans hW4⟩
    clear hf hW4
    go_wp2_with fail
    have HT4 := Lib.hid (HT.out w4 H4.out.1)
    rw [HVAL.out] at HT4
    refine HT4.out.mono ?_
    rintro e w5 ⟨rfl, hW5⟩
    have H5 := Lib.hid (H4.out.2.trans (hW5.mono H4.out.2.size))
    clear hW5 hs1 hs2
    unfold fRet3
    go_wp2
    go_ret3
    exact ⟨rfl, H5.out⟩
set_option exponentiation.threshold 6000 in
set_option maxHeartbeats 4000000 in
set_option maxRecDepth 100000 in
theorem rprod2_calls (u v : Nat) (hu : u < 18446744073709551616) (hv : v < 18446744073709551616) (w : World) :
    Calls Tryz.prog 17 #[.float .f64 u, .float .f64 v] w fun e w' => e = fRet3 (partS 3 u v) ∧ Below w.heap.size w w' := by
  have HP := Lib.hid (fun W => pair_calls 0 u v hu hv W)
  obtain ⟨b, hb⟩ : ∃ b, pairB 0 u v = b := ⟨_, rfl⟩
  rw [hb] at HP
  cases b
  · have HR : Hid (partS 3 u v = none) := part_false hb
    clear hb hu hv
    go_enter Tryz.func17, Tryz.ntmps17
    go_wp2_with fail
    refine (HP.out _).mono ?_
    rintro e w' ⟨rfl, rfl⟩
    go_wp2
    go_ret3
    exact ⟨ret3_none HR.out, Below.refl _ _⟩
  · obtain ⟨fu, fv', hd1, hd2⟩ := pairB_true hb
    have hbu := fv_bd hu fu
    have hbv := fv_bd hv fv'
    have HEU := Lib.hid (fun W => exact66 u hu fu W)
    have HEV := Lib.hid (fun W => exact66 v hv fv' W)
    have HSP := Lib.hid (fun W => setprec_calls w.heap.size W)
    have HAD := Lib.hid (fun W b1 b2 (hz : Blk W w.heap.size 64 (fC 2300 0 0 false (.slice none 0 0) 0)) (hx : FVal W 1140 1 b1 (fv u * ((2 ^ 66 : Nat) : Int))) (hy : FVal W 1140 1 b2 (fv v * ((2 ^ 66 : Nat) : Int))) (h1 : b1 ≠ w.heap.size) (h2 : b2 ≠ w.heap.size) (h3 : b1 ≠ b2) => mulf_calls w.heap.size b1 b2 1140 1140 2164 _ _ W hz hx hy h3 h1 h2 (by decide) (by decide) (scale_bd hbu) (scale_bd hbv) (by decide))
    have HT := Lib.hid (fun W (hx : FVal W 2344 2 w.heap.size (fv u * ((2 ^ 66 : Nat) : Int) * (fv v * ((2 ^ 66 : Nat) : Int)) * ((2 ^ 64 : Nat) : Int))) => rrest_calls w.heap.size 2344 2 _ W hx (by decide) (.inl (by decide)) (mul_bdR (scale_bd hbu) (scale_bd hbv)) (by decide) (by decide))
    have HVAL : Hid (restS 2344 (fv u * ((2 ^ 66 : Nat) : Int) * (fv v * ((2 ^ 66 : Nat) : Int)) * ((2 ^ 64 : Nat) : Int)) = partS 3 u v) := by
      rw [Hid, part_true hb, exS_3]; exact mul_valR _ _
    have HN := Lib.hid (float_new w)
    have HW := Lib.hid (below_new (Below.refl w.heap.size w) (.cells #[.int .u32 0, .int .u8 0, .int .i8 0, .int .u8 0, .bool false, .slice none 0 0, .int .i32 0] 64))
    obtain ⟨o, ho⟩ : ∃ o, partS 3 u v = o := ⟨_, rfl⟩
    rw [ho] at HVAL ⊢
    clear hb hu hv fu fv' hd1 hd2 hbu hbv ho
    go_enter Tryz.func17, Tryz.ntmps17
    go_wp2_with fail
    refine (HP.out _).mono ?_
    rintro e w' ⟨rfl, rfl⟩
    go_wp2_with fail
    refine (HSP.out _ HN.out).mono ?_
    rintro e w1 ⟨rfl, hz1, hW1⟩
    have H1 := Lib.hid (And.intro hz1 (HW.out.trans hW1))
    clear hz1 hW1
    go_wp2_with fail
    refine (HEU.out _).mono ?_
    rintro e w2 ⟨rfl, hx2, hW2⟩
    have H2 := Lib.hid (And.intro hx2 hW2)
    clear hx2 hW2
    go_wp2_with fail
    refine (HEV.out _).mono ?_
    rintro e w3 ⟨rfl, hy3, hW3⟩
    have H3 := Lib.hid (And.intro hy3 hW3)
    clear hy3 hW3
    go_wp2_with fail
    have hs1 : w.heap.size < w1.heap.size := H1.out.1.lt
    have hs2 : w1.heap.size < w2.heap.size := H2.out.1.lt
    refine (HAD.out w3 w1.heap.size w2.heap.size ((H1.out.1.below' H2.out.2).below' H3.out.2) (H2.out.1.keep H3.out.2) H3.out.1 (by omega) (by omega) (by omega)).mono ?_
    rintro e w4 ⟨rfl, hf, hW4⟩
    have H4 : Hid (FVal w4 2344 2 w.heap.size (fv u * ((2 ^ 66 : Nat) : Int) * (fv v * ((2 ^ 66 : Nat) : Int)) * ((2 ^ 64 : Nat) : Int)) ∧ Below w.heap.size w w4) := ⟨hf, ((H1.out.2.trans (H2.out.2.mono (Nat.le_of_lt hs1))).trans (H3.out.2.mono (by omega))).trans hW4⟩
    clear hf hW4
    go_wp2_with fail
    have HT4 := Lib.hid (HT.out w4 H4.out.1)
    rw [HVAL.out] at HT4
    refine HT4.out.mono ?_
    rintro e w5 ⟨rfl, hW5⟩
    have H5 := Lib.hid (H4.out.2.trans (hW5.mono H4.out.2.size))
    clear hW5 hs1 hs2
    unfold fRet3
    go_wp2
    go_ret3
    exact ⟨rfl, H5.out⟩
end Go.Proofs.YtfgdmiigmcnmpaaGreatFmt
