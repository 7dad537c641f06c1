/- Walks and plain laws of this seat's functions, part 37: G32 G30. -/
import Derived.Test.YtogjodnmegafdaaGreatFmtJ35
import Derived.Test.YtogjodnmegafdaaGreatFmtJ36
set_option linter.unusedVariables false
set_option linter.unusedSimpArgs false
namespace Go.Proofs.YtogjodnmegafdaaGreatFmt
open Go.RowKit
attribute [local go_sem ↓] Go.wp_at_zero Go.wp_at_succ

/-! ### round.Scale -/
set_option exponentiation.threshold 9000 in
theorem scale_arg_bd {u : Nat} (hu : u < 18446744073709551616) (hf : fin u = true) : (fv u * ((2 ^ (6200 - 1074) : Nat) : Int)).natAbs < 2 ^ 7224 := by
  rw [Int.natAbs_mul, Int.natAbs_natCast]
  have h := Nat.mul_lt_mul_of_pos_right (fv_bd hu hf) (Nat.pow_pos (n := 6200 - 1074) (a := 2) (by decide))
  rwa [← Nat.pow_add] at h
set_option exponentiation.threshold 9000 in
set_option maxHeartbeats 400000 in
set_option maxRecDepth 100000 in
theorem rscale_calls (d : Int) (u : Nat) (n : Int) (hu : u < 18446744073709551616) (w : World) :
    Calls Tryz.prog 24 #[.int .i64 d, .float .f64 u, .int .i64 n] w fun e w' => e = fRet2 (scaleS 4000 d u n) ∧ Below w.heap.size w w' := by
  have HP := Lib.hid (fun W => pair_calls d u 0 hu (by decide) W)
  obtain ⟨b, hb⟩ : ∃ b, pairB d u 0 = b := ⟨_, rfl⟩
  rw [hb] at HP
  cases b
  · have HR : Hid (scaleS 4000 d u n = none) := scale_none hb
    clear hb hu
    go_enter Tryz.func24, Tryz.ntmps24
    go_wp2_with fail
    refine (HP.out _).mono ?_
    rintro e w' ⟨rfl, rfl⟩
    go_wp2
    go_ret2
    exact ⟨ret2_none HR.out, Below.refl _ _⟩
  · obtain ⟨fu, -, hd1, hd2⟩ := pairB_true hb
    have hcb := clamp_bd (b := 4000) (n := n) (by decide)
    obtain ⟨K, hK⟩ : ∃ K : Nat, (K : Int) = 6200 - clampS 4000 n := ⟨(6200 - clampS 4000 n).toNat, by omega⟩
    have HVAL : Hid (rndS d K (fv u * ((2 ^ (6200 - 1074) : Nat) : Int)) = scaleS 4000 d u n) := (scale_at hb hK).symm
    have hXb := scale_arg_bd hu fu
    have HEU := Lib.hid (fun W => exact_calls u 6200 hu fu (by decide) W)
    have HSP := Lib.hid (fun W => setprec_calls w.heap.size W)
    have hcs : (n < -4000 ∧ clampS 4000 n = -4000) ∨ ((-4000 ≤ n ∧ n ≤ 4000) ∧ clampS 4000 n = n) ∨ (4000 < n ∧ clampS 4000 n = 4000) := by unfold clampS; omega
    obtain ⟨k, hk⟩ : ∃ k, clampS 4000 n = k := ⟨_, rfl⟩
    rw [hk] at hcs hcb hK
    have HSM := Lib.hid (fun W b1 (hz : Blk W w.heap.size 65 (fC 2300 0 0 false (.slice none 0 0) 0)) (hx : FVal W 6200 1 b1 (fv u * ((2 ^ (6200 - 1074) : Nat) : Int))) (h1 : w.heap.size ≠ b1) => setmant_calls w.heap.size b1 6200 K 7224 k _ W hz hx h1 hXb hK (by decide) (by decide) hcb)
    have HT := Lib.hid (fun W X (hx : FVal W K 1 w.heap.size X) => ftold_calls d w.heap.size K 1 X W hx (by decide) (by omega) ⟨hd1, hd2⟩)
    have HN := Lib.hid (float_new w)
    have HW := Lib.hid (below_new (Below.refl w.heap.size w) (.cells #[.int .u32 0, .int .u8 0, .int .i8 0, .int .u8 0, .bool false, .slice none 0 0, .int .i32 0] 65))
    obtain ⟨o, ho⟩ : ∃ o, scaleS 4000 d u n = o := ⟨_, rfl⟩
    obtain ⟨X, hX⟩ : ∃ X, fv u * ((2 ^ (6200 - 1074) : Nat) : Int) = X := ⟨_, rfl⟩
    rw [ho] at HVAL ⊢
    rw [hX] at HVAL HEU HSM
    clear hb hu fu hd1 hd2 hXb ho hX hk hK hcb
    rcases hcs with ⟨hc, rfl⟩ | ⟨⟨hc, hc2⟩, rfl⟩ | ⟨hc, rfl⟩
    · have c1 : ¬ (-4000 < n) := by omega
      have c2 : ¬ (-4000 ≤ n) := by omega
      go_enter Tryz.func24, Tryz.ntmps24
      go_wp2_with fail
      refine (HP.out _).mono ?_
      rintro e w' ⟨rfl, rfl⟩
      go_wp2_with fail
      refine (HSP.out _ HN.out).mono ?_
      rintro e w1 ⟨rfl, hz1, hW1⟩
      have H1 := Lib.hid (And.intro hz1 (HW.out.trans hW1))
      clear hz1 hW1
      go_wp2_with fail
      refine (HEU.out _).mono ?_
      rintro e w2 ⟨rfl, hx2, hW2⟩
      have H2 := Lib.hid (And.intro hx2 hW2)
      clear hx2 hW2
      go_wp2_with fail
      have hs1 : w.heap.size < w1.heap.size := H1.out.1.lt
      refine (HSM.out w2 w1.heap.size (H1.out.1.below' H2.out.2) H2.out.1 (by omega)).mono ?_
      rintro e w4 ⟨rfl, hf, hW4⟩
      have H4 : Hid (FVal w4 K 1 w.heap.size X ∧ Below w.heap.size w w4) := ⟨hf, (H1.out.2.trans (H2.out.2.mono (Nat.le_of_lt hs1))).trans hW4⟩
      clear hf hW4
      go_wp2_with fail
      have HT4 := Lib.hid (HT.out w4 _ H4.out.1)
      rw [HVAL.out] at HT4
      refine HT4.out.mono ?_
      rintro e w5 ⟨rfl, hW5⟩
      have H5 := Lib.hid (H4.out.2.trans (hW5.mono H4.out.2.size))
      clear hW5 hs1
      unfold fRet2
      go_wp2
      go_ret2
      exact ⟨rfl, H5.out⟩
    · have c1 : ¬ (k < -4000) := by omega
      have c2 : ¬ (4000 < k) := by omega
      go_enter Tryz.func24, Tryz.ntmps24
      go_wp2_with fail
      refine (HP.out _).mono ?_
      rintro e w' ⟨rfl, rfl⟩
      go_wp2_with fail
      refine (HSP.out _ HN.out).mono ?_
      rintro e w1 ⟨rfl, hz1, hW1⟩
      have H1 := Lib.hid (And.intro hz1 (HW.out.trans hW1))
      clear hz1 hW1
      go_wp2_with fail
      refine (HEU.out _).mono ?_
      rintro e w2 ⟨rfl, hx2, hW2⟩
      have H2 := Lib.hid (And.intro hx2 hW2)
      clear hx2 hW2
      go_wp2_with fail
      have hs1 : w.heap.size < w1.heap.size := H1.out.1.lt
      refine (HSM.out w2 w1.heap.size (H1.out.1.below' H2.out.2) H2.out.1 (by omega)).mono ?_
      rintro e w4 ⟨rfl, hf, hW4⟩
      have H4 : Hid (FVal w4 K 1 w.heap.size X ∧ Below w.heap.size w w4) := ⟨hf, (H1.out.2.trans (H2.out.2.mono (Nat.le_of_lt hs1))).trans hW4⟩
      clear hf hW4
      go_wp2_with fail
      have HT4 := Lib.hid (HT.out w4 _ H4.out.1)
      rw [HVAL.out] at HT4
      refine HT4.out.mono ?_
      rintro e w5 ⟨rfl, hW5⟩
      have H5 := Lib.hid (H4.out.2.trans (hW5.mono H4.out.2.size))
      clear hW5 hs1
      unfold fRet2
      go_wp2
      go_ret2
      exact ⟨rfl, H5.out⟩
    · have c1 : ¬ (n < -4000) := by omega
      have c2 : ¬ (n ≤ 4000) := by omega
      have c3 : -4000 ≤ n := by omega
      have c4 : -4000 < n := by omega
      have c5 : ¬ (n < 4000) := by omega
      go_enter Tryz.func24, Tryz.ntmps24
      go_wp2_with fail
      refine (HP.out _).mono ?_
      rintro e w' ⟨rfl, rfl⟩
      go_wp2_with fail
      refine (HSP.out _ HN.out).mono ?_
      rintro e w1 ⟨rfl, hz1, hW1⟩
      have H1 := Lib.hid (And.intro hz1 (HW.out.trans hW1))
      clear hz1 hW1
      go_wp2_with fail
      refine (HEU.out _).mono ?_
      rintro e w2 ⟨rfl, hx2, hW2⟩
      have H2 := Lib.hid (And.intro hx2 hW2)
      clear hx2 hW2
      go_wp2_with fail
      have hs1 : w.heap.size < w1.heap.size := H1.out.1.lt
      refine (HSM.out w2 w1.heap.size (H1.out.1.below' H2.out.2) H2.out.1 (by omega)).mono ?_
      rintro e w4 ⟨rfl, hf, hW4⟩
      have H4 : Hid (FVal w4 K 1 w.heap.size X ∧ Below w.heap.size w w4) := ⟨hf, (H1.out.2.trans (H2.out.2.mono (Nat.le_of_lt hs1))).trans hW4⟩
      clear hf hW4
      go_wp2_with fail
      have HT4 := Lib.hid (HT.out w4 _ H4.out.1)
      rw [HVAL.out] at HT4
      refine HT4.out.mono ?_
      rintro e w5 ⟨rfl, hW5⟩
      have H5 := Lib.hid (H4.out.2.trans (hW5.mono H4.out.2.size))
      clear hW5 hs1
      unfold fRet2
      go_wp2
      go_ret2
      exact ⟨rfl, H5.out⟩
end Go.Proofs.YtogjodnmegafdaaGreatFmt

namespace Go.Proofs.YtogjodnmegafdaaGreatFmt
open Go.RowKit
attribute [local go_sem ↓] Go.wp_at_zero Go.wp_at_succ

/-! ### round.Next -/
theorem next_none {d : Int} {u : Nat} (h : pairB d u 0 = false) : nextS d u = none := by unfold nextS; rw [h, if_neg (by decide)]
theorem nextR_eq (up : Bool) (n : Bool) (r : Nat) : (if up then upR n r else downR n r) = nextR up n r := by unfold nextR; rfl
theorem nextR_le {up neg : Bool} {r : Nat} (hr : r ≤ INFR) : (nextR up neg r).2 ≤ INFR := by unfold nextR; cases up; exact downR_le hr; exact upR_le hr
set_option maxHeartbeats 2000000 in
set_option maxRecDepth 100000 in
theorem rnext_calls (d : Int) (u : Nat) (hu : u < 18446744073709551616) (w : World) :
    Calls Tryz.prog 16 #[.int .i64 d, .float .f64 u] w fun e w' => e = fRet2 (nextS d u) ∧ w = w' := by
  have HP := Lib.hid (fun W => pair_calls d u 0 hu (by decide) W)
  obtain ⟨b, hb⟩ : ∃ b, pairB d u 0 = b := ⟨_, rfl⟩
  rw [hb] at HP
  cases b
  · have HR : Hid (nextS d u = none) := next_none hb
    clear hb hu
    go_enter Tryz.func16, Tryz.ntmps16
    go_wp2_with fail
    refine (HP.out _).mono ?_
    rintro e w' ⟨rfl, rfl⟩
    go_wp2
    go_ret2
    exact ⟨ret2_none HR.out, rfl⟩
  · obtain ⟨fu, -, hd1, hd2⟩ := pairB_true hb
    obtain ⟨h1, h2⟩ := word_of hu fu
    obtain ⟨n, hn⟩ : ∃ n, fneg u = n := ⟨_, rfl⟩
    obtain ⟨r, hr⟩ : ∃ r, uabs u = r := ⟨_, rfl⟩
    have hle := Nat.le_of_lt (hr ▸ h2)
    rw [hn, hr] at h1
    obtain rfl | rfl | rfl : d = 0 ∨ d = 1 ∨ d = 2 := by omega
    · have HR : Hid (nextS 0 u = some (sgnR n r)) := by
        unfold nextS
        rw [Hid, hb, hn, hr, if_pos rfl, if_neg (by decide), if_neg (by decide)]
      have ha := run_fadd 22 (add_zero_word (neg := n) (hr ▸ h2))
      rw [← h1] at ha
      obtain ⟨s, hs⟩ : ∃ s, sgnR n r = s := ⟨_, rfl⟩
      rw [hs] at ha HR
      clear hb hu fu hd1 hd2 h1 h2 hn hr hle hs
      go_enter Tryz.func16, Tryz.ntmps16
      go_wp2_with fail
      refine (HP.out _).mono ?_
      rintro e w' ⟨rfl, rfl⟩
      go_wp2
      go_ret2
      exact ⟨ret2_some HR.out, rfl⟩
    · have HR : Hid (nextS 1 u = sideS 0 (nextR true n r).1 (nextR true n r).2 0) := by
        unfold nextS
        rw [Hid, hb, hn, hr, if_pos rfl, if_pos rfl]; rfl
      have HI := Lib.hid (fun W => inf_up W)
      have HN := Lib.hid (fun W => nextafter_calls true n r hle W)
      have HS := Lib.hid (fun W => side_calls 0 (nextR true n r).1 (nextR true n r).2 0 (by decide) (nextR_le hle) (by decide) W)
      rw [← h1] at HN
      obtain ⟨o, ho⟩ : ∃ o, sideS 0 (nextR true n r).1 (nextR true n r).2 0 = o := ⟨_, rfl⟩
      obtain ⟨s, hs⟩ : ∃ s, wordR (nextR true n r).1 (nextR true n r).2 = s := ⟨_, rfl⟩
      rw [ho] at HR HS
      rw [hs] at HN HS
      clear hb hu fu hd1 hd2 h1 h2 hn hr hle hs ho
      go_enter Tryz.func16, Tryz.ntmps16
      go_wp2_with fail
      refine (HP.out _).mono ?_
      rintro e w' ⟨rfl, rfl⟩
      go_wp2_with fail
      refine (HI.out _).mono ?_
      rintro e w' ⟨rfl, rfl⟩
      go_wp2_with fail
      refine (HN.out _).mono ?_
      rintro e w' ⟨rfl, rfl⟩
      go_wp2_with fail
      refine (HS.out _).mono ?_
      rintro e w' ⟨rfl, rfl⟩
      unfold fRet2
      go_wp2
      go_ret2
      rw [HR.out]
      exact ⟨rfl, rfl⟩
    · have HR : Hid (nextS 2 u = sideS 0 (nextR false n r).1 (nextR false n r).2 0) := by
        unfold nextS
        rw [Hid, hb, hn, hr, if_pos rfl, if_neg (by decide), if_pos rfl]; rfl
      have HI := Lib.hid (fun W => inf_down W)
      have HN := Lib.hid (fun W => nextafter_calls false n r hle W)
      have HS := Lib.hid (fun W => side_calls 0 (nextR false n r).1 (nextR false n r).2 0 (by decide) (nextR_le hle) (by decide) W)
      rw [← h1] at HN
      obtain ⟨o, ho⟩ : ∃ o, sideS 0 (nextR false n r).1 (nextR false n r).2 0 = o := ⟨_, rfl⟩
      obtain ⟨s, hs⟩ : ∃ s, wordR (nextR false n r).1 (nextR false n r).2 = s := ⟨_, rfl⟩
      rw [ho] at HR HS
      rw [hs] at HN HS
      clear hb hu fu hd1 hd2 h1 h2 hn hr hle hs ho
      go_enter Tryz.func16, Tryz.ntmps16
      go_wp2_with fail
      refine (HP.out _).mono ?_
      rintro e w' ⟨rfl, rfl⟩
      go_wp2_with fail
      refine (HI.out _).mono ?_
      rintro e w' ⟨rfl, rfl⟩
      go_wp2_with fail
      refine (HN.out _).mono ?_
      rintro e w' ⟨rfl, rfl⟩
      go_wp2_with fail
      refine (HS.out _).mono ?_
      rintro e w' ⟨rfl, rfl⟩
      unfold fRet2
      go_wp2
      go_ret2
      rw [HR.out]
      exact ⟨rfl, rfl⟩
end Go.Proofs.YtogjodnmegafdaaGreatFmt
