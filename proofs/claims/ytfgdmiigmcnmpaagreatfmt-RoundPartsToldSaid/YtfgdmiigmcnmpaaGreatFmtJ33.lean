/- Walks and plain laws of this seat's functions, part 33: G30 G31 G31b G32. -/
import Derived.Test.YtfgdmiigmcnmpaaGreatFmtJ28
import Derived.Test.YtfgdmiigmcnmpaaGreatFmtJ29
import Derived.Test.YtfgdmiigmcnmpaaGreatFmtJ32
set_option linter.unusedVariables false
set_option linter.unusedSimpArgs false
namespace Go.Proofs.YtfgdmiigmcnmpaaGreatFmt
open Go.RowKit
attribute [local go_sem ↓] Go.wp_at_zero Go.wp_at_succ

/-! ### round.Next -/
theorem next_none {d : Int} {u : Nat} (h : pairB d u 0 = false) : nextS d u = none := by unfold nextS; rw [h, if_neg (by decide)]
theorem nextR_eq (up : Bool) (n : Bool) (r : Nat) : (if up then upR n r else downR n r) = nextR up n r := by unfold nextR; rfl
theorem nextR_le {up neg : Bool} {r : Nat} (hr : r ≤ INFR) : (nextR up neg r).2 ≤ INFR := by unfold nextR; cases up; exact downR_le hr; exact upR_le hr
set_option maxHeartbeats 2000000 in
set_option maxRecDepth 100000 in
theorem rnext_calls (d : Int) (u : Nat) (hu : u < 18446744073709551616) (w : World) :
    Calls Tryz.prog 14 #[.int .i64 d, .float .f64 u] w fun e w' => e = fRet2 (nextS d u) ∧ w = w' := by
  have HP := Lib.hid (fun W => pair_calls d u 0 hu (by decide) W)
  obtain ⟨b, hb⟩ : ∃ b, pairB d u 0 = b := ⟨_, rfl⟩
  rw [hb] at HP
  cases b
  · have HR : Hid (nextS d u = none) := next_none hb
    clear hb hu
    go_enter Tryz.func14, Tryz.ntmps14
    go_wp2_with fail
    refine (HP.out _).mono ?_
    rintro e w' ⟨rfl, rfl⟩
    go_wp2
    go_ret2
    exact ⟨ret2_none HR.out, rfl⟩
  · obtain ⟨fu, -, hd1, hd2⟩ := pairB_true hb
    obtain ⟨h1, h2⟩ := word_of hu fu
    obtain ⟨n, hn⟩ : ∃ n, fneg u = n := ⟨_, rfl⟩
    obtain ⟨r, hr⟩ : ∃ r, uabs u = r := ⟨_, rfl⟩
    have hle := Nat.le_of_lt (hr ▸ h2)
    rw [hn, hr] at h1
    obtain rfl | rfl | rfl : d = 0 ∨ d = 1 ∨ d = 2 := by omega
    · have HR : Hid (nextS 0 u = some (sgnR n r)) := by
        unfold nextS
        rw [Hid, hb, hn, hr, if_pos rfl, if_neg (by decide), if_neg (by decide)]
      have ha := run_fadd 22 (add_zero_word (neg := n) (hr ▸ h2))
      rw [← h1] at ha
      obtain ⟨s, hs⟩ : ∃ s, sgnR n r = s := ⟨_, rfl⟩
      rw [hs] at ha HR
      clear hb hu fu hd1 hd2 h1 h2 hn hr hle hs
      go_enter Tryz.func14, Tryz.ntmps14
      go_wp2_with fail
      refine (HP.out _).mono ?_
      rintro e w' ⟨rfl, rfl⟩
      go_wp2
      go_ret2
      exact ⟨ret2_some HR.out, rfl⟩
    · have HR : Hid (nextS 1 u = sideS 0 (nextR true n r).1 (nextR true n r).2 0) := by
        unfold nextS
        rw [Hid, hb, hn, hr, if_pos rfl, if_pos rfl]; rfl
      have HI := Lib.hid (fun W => inf_up W)
      have HN := Lib.hid (fun W => nextafter_calls true n r hle W)
      have HS := Lib.hid (fun W => side_calls 0 (nextR true n r).1 (nextR true n r).2 0 (by decide) (nextR_le hle) (by decide) W)
      rw [← h1] at HN
      obtain ⟨o, ho⟩ : ∃ o, sideS 0 (nextR true n r).1 (nextR true n r).2 0 = o := ⟨_, rfl⟩
      obtain ⟨s, hs⟩ : ∃ s, wordR (nextR true n r).1 (nextR true n r).2 = s := ⟨_, rfl⟩
      rw [ho] at HR HS
      rw [hs] at HN HS
      clear hb hu fu hd1 hd2 h1 h2 hn hr hle hs ho
      go_enter Tryz.func14, Tryz.ntmps14
      go_wp2_with fail
      refine (HP.out _).mono ?_
      rintro e w' ⟨rfl, rfl⟩
      go_wp2_with fail
      refine (HI.out _).mono ?_
      rintro e w' ⟨rfl, rfl⟩
      go_wp2_with fail
      refine (HN.out _).mono ?_
      rintro e w' ⟨rfl, rfl⟩
      go_wp2_with fail
      refine (HS.out _).mono ?_
      rintro e w' ⟨rfl, rfl⟩
      unfold fRet2
      go_wp2
      go_ret2
      rw [HR.out]
      exact ⟨rfl, rfl⟩
    · have HR : Hid (nextS 2 u = sideS 0 (nextR false n r).1 (nextR false n r).2 0) := by
        unfold nextS
        rw [Hid, hb, hn, hr, if_pos rfl, if_neg (by decide), if_pos rfl]; rfl
      have HI := Lib.hid (fun W => inf_down W)
      have HN := Lib.hid (fun W => nextafter_calls false n r hle W)
      have HS := Lib.hid (fun W => side_calls 0 (nextR false n r).1 (nextR false n r).2 0 (by decide) (nextR_le hle) (by decide) W)
      rw [← h1] at HN
      obtain ⟨o, ho⟩ : ∃ o, sideS 0 (nextR false n r).1 (nextR false n r).2 0 = o := ⟨_, rfl⟩
      obtain ⟨s, hs⟩ : ∃ s, wordR (nextR false n r).1 (nextR false n r).2 = s := ⟨_, rfl⟩
      rw [ho] at HR HS
      rw [hs] at HN HS
      clear hb hu fu hd1 hd2 h1 h2 hn hr hle hs ho
      go_enter Tryz.func14, Tryz.ntmps14
      go_wp2_with fail
      refine (HP.out _).mono ?_
      rintro e w' ⟨rfl, rfl⟩
      go_wp2_with fail
      refine (HI.out _).mono ?_
      rintro e w' ⟨rfl, rfl⟩
      go_wp2_with fail
      refine (HN.out _).mono ?_
      rintro e w' ⟨rfl, rfl⟩
      go_wp2_with fail
      refine (HS.out _).mono ?_
      rintro e w' ⟨rfl, rfl⟩
      unfold fRet2
      go_wp2
      go_ret2
      rw [HR.out]
      exact ⟨rfl, rfl⟩
end Go.Proofs.YtfgdmiigmcnmpaaGreatFmt

namespace Go.Proofs.YtfgdmiigmcnmpaaGreatFmt
open Go.RowKit
attribute [local go_sem ↓] Go.wp_at_zero Go.wp_at_succ

/-! ### Copy, SetMantExp -/
/-- a number in the block b, its mantissa its own -/
def CopyP (w : World) (b m : Nat) (acc form ex : Int) (neg : Bool) : Prop := ∃ (v : Value) (B : Nat), Blk w b 64 (fC 2300 acc form neg v ex) ∧ OwnN w B m v ∧ b < B
set_option exponentiation.threshold 3000 in
set_option maxHeartbeats 4000000 in
set_option maxRecDepth 100000 in
theorem copy_fin (b bx n m B : Nat) (ax ex : Int) (neg : Bool) (v : Value) (w : World) (hb : Blk w b 64 (fC 2300 0 0 false (.slice none 0 0) 0)) (hx : Blk w bx 64 (fC 2300 ax 1 neg v ex)) (hO : OwnN w B m v) (hne : b ≠ bx)
    (hbl : bl m = 64 * n) (h0 : 0 < n) (h35 : n ≤ 35) :
    Calls Tryz.prog 107 #[.pointer (some ⟨b, 0, none⟩), .pointer (some ⟨bx, 0, none⟩)] w fun e w' => e = .returned (.pointer (some ⟨b, 0, none⟩)) ∧ CopyP w' b m ax 1 ex neg ∧ Below b w w' := by
  have hm0 : m ≠ 0 := by intro h; subst h; rw [bl_zero] at hbl; omega
  obtain ⟨A, n', c, rfl, _⟩ := hO.shape
  have hw := hO.words hm0
  obtain rfl : n' = n := by omega
  obtain ⟨x0, x1, x2, x3, x4, x5, x6⟩ := sev hx
  obtain ⟨z0, z1, z2, z3, z4, z5, z6⟩ := sev hb
  obtain ⟨f0, f1, f2, f3, f4, f5, f6⟩ := frz hb
  have hbx : ¬ bx = b := fun h => hne h.symm
  have hneq1 := neq_flt_other w (a := ⟨b, 0, none⟩) (b := ⟨bx, 0, none⟩) (by intro h; injection h with h; exact hne h) hb hx
  have HB := Lib.hid (And.intro hb (And.intro hx (And.intro hO hm0)))
  have hL : m < B64 ^ 36 := by
    rw [pow64]; exact Nat.lt_of_lt_of_le (bl_lt m) (Nat.pow_le_pow_right (by decide) (by omega))
  have HL := Lib.hid hL
  have HN := Lib.hid (And.intro hbl (And.intro h0 h35))
  clear hb hx hO hbl h0 h35 hw hm0 hL
  go_enter Tryz.func107, Tryz.ntmps107
  go_wp2
  obtain ⟨k1, k2, k3, k4⟩ := HB.out
  have hb1 : Blk (((((w.setCell ⟨b, 0, none⟩ (.int .u32 2300)).setCell ⟨b, 1, none⟩ (.int .u8 0)).setCell ⟨b, 2, none⟩ (.int .i8 ax)).setCell ⟨b, 3, none⟩ (.int .u8 1)).setCell ⟨b, 4, none⟩ (.bool neg)) b 64 (fC 2300 ax 1 neg (.slice none 0 0) 0) := (((((k1.set 0 (.int .u32 2300)).set 1 (.int .u8 0)).set 2 (.int .i8 ax)).set 3 (.int .u8 1)).set 4 (.bool neg))
  have hx1 : Blk (((((w.setCell ⟨b, 0, none⟩ (.int .u32 2300)).setCell ⟨b, 1, none⟩ (.int .u8 0)).setCell ⟨b, 2, none⟩ (.int .i8 ax)).setCell ⟨b, 3, none⟩ (.int .u8 1)).setCell ⟨b, 4, none⟩ (.bool neg)) bx 64 (fC 2300 ax 1 neg (.slice A n' c) ex) := (((((k2.set_far hbx 0 (.int .u32 2300)).set_far hbx 1 (.int .u8 0)).set_far hbx 2 (.int .i8 ax)).set_far hbx 3 (.int .u8 1)).set_far hbx 4 (.bool neg))
  have hO1 : OwnN (((((w.setCell ⟨b, 0, none⟩ (.int .u32 2300)).setCell ⟨b, 1, none⟩ (.int .u8 0)).setCell ⟨b, 2, none⟩ (.int .i8 ax)).setCell ⟨b, 3, none⟩ (.int .u8 1)).setCell ⟨b, 4, none⟩ (.bool neg)) B m (.slice A n' c) := (((((k3.setF k1 0 (.int .u32 2300)).setF (k1.set 0 (.int .u32 2300)) 1 (.int .u8 0)).setF ((k1.set 0 (.int .u32 2300)).set 1 (.int .u8 0)) 2 (.int .i8 ax)).setF (((k1.set 0 (.int .u32 2300)).set 1 (.int .u8 0)).set 2 (.int .i8 ax)) 3 (.int .u8 1)).setF ((((k1.set 0 (.int .u32 2300)).set 1 (.int .u8 0)).set 2 (.int .i8 ax)).set 3 (.int .u8 1)) 4 (.bool neg))
  have hW1 : Below b w (((((w.setCell ⟨b, 0, none⟩ (.int .u32 2300)).setCell ⟨b, 1, none⟩ (.int .u8 0)).setCell ⟨b, 2, none⟩ (.int .i8 ax)).setCell ⟨b, 3, none⟩ (.int .u8 1)).setCell ⟨b, 4, none⟩ (.bool neg)) := ((((((Below.refl b w).setCell (p := ⟨b, 0, none⟩) (Nat.le_refl _) (.int .u32 2300)).setCell (p := ⟨b, 1, none⟩) (Nat.le_refl _) (.int .u8 0)).setCell (p := ⟨b, 2, none⟩) (Nat.le_refl _) (.int .i8 ax)).setCell (p := ⟨b, 3, none⟩) (Nat.le_refl _) (.int .u8 1)).setCell (p := ⟨b, 4, none⟩) (Nat.le_refl _) (.bool neg))
  obtain ⟨w1, hw1⟩ : ∃ W, ((((w.setCell ⟨b, 0, none⟩ (.int .u32 2300)).setCell ⟨b, 1, none⟩ (.int .u8 0)).setCell ⟨b, 2, none⟩ (.int .i8 ax)).setCell ⟨b, 3, none⟩ (.int .u8 1)).setCell ⟨b, 4, none⟩ (.bool neg) = W := ⟨_, rfl⟩
  rw [hw1] at hb1 hx1 hO1 hW1 ⊢
  have H1 := Lib.hid (And.intro hb1 (And.intro hx1 (And.intro hO1 hW1)))
  have HS := Lib.hid (fun (W : World) (hW : Below w1.heap.size w1 W) => nset_calls (.slice none 0 0) (.slice A n' c) 0 m W W.heap.size B (.inl ⟨rfl, rfl⟩) (Nat.le_refl _) (H1.out.2.2.1.keep hW) 36 HL.out (by decide))
  clear hw1 hb1 hx1 hO1 hW1 k1 k2 k3 k4 x0 x1 x2 x3 x4 x5 x6 z0 z1 z2 z3 z4 z5 z6 f0 f1 f2 f3 f4 f5 f6 hneq1
  obtain ⟨x0, x1, x2, x3, x4, x5, x6⟩ := sev H1.out.2.1
  obtain ⟨z0, z1, z2, z3, z4, z5, z6⟩ := sev H1.out.1
  obtain ⟨f0, f1, f2, f3, f4, f5, f6⟩ := frz H1.out.1
  go_region_with (go_at_call 114; refine (HS.out _ (by repeat (first | exact Below.refl _ _ | (with_reducible apply below_drewN) | (with_reducible apply Below.drew)))).mono ?_; rintro e w2 ⟨v, rfl, hO2, hW2⟩; have hw2 := hO2; have HO22 := Lib.hid hO2; obtain ⟨g, Z, n2, rfl, hgB, hgb, hz, hn2, hl2, ht2, hv2⟩ := hO2.resolve_left (fun h => HB.out.2.2.2 h.2); have hwd := OwnN.words hw2 HB.out.2.2.2; have hb12 : Below w1.heap.size w1 w2 := Below.trans (by repeat (first | exact Below.refl _ _ | (with_reducible apply below_drewN) | (with_reducible apply Below.drew))) hW2; have H2 : Hid (Blk w2 b 64 (fC 2300 ax 1 neg (.slice none 0 0) 0) ∧ Blk w2 bx 64 (fC 2300 ax 1 neg (.slice A n' c) ex) ∧ Blk w2 g 106 (i64s Z) ∧ (∀ d ∈ Z, d < B64) ∧ n2 ≤ Z.length ∧ Z.length ≤ 1099511627776 ∧ val B64 (Z.take n2) = m ∧ n2 = n' ∧ b < g ∧ Below b w w2) := ⟨H1.out.1.below' hb12, H1.out.2.1.below' hb12, hgb, hz, hn2, hl2, hv2, by have := HN.out.1; omega, Nat.lt_of_lt_of_le H1.out.1.lt hgB, H1.out.2.2.2.trans (hb12.mono (Nat.le_of_lt H1.out.1.lt))⟩; clear hw2 hgB hgb hz hn2 hl2 ht2 hv2 hwd hb12 hW2 hO2; obtain ⟨y0, y1, y2, y3, y4, y5, y6⟩ := sev H2.out.1; obtain ⟨g0, g1, g2, g3, g4, g5, g6⟩ := frz H2.out.1)
  all_goals (
    obtain rfl : n2 = n' := H2.out.2.2.2.2.2.2.2.1
    have hb3 : Blk (w2.setCell ⟨b, 5, none⟩ (.slice (some ⟨g, 0, none⟩) n2 Z.length)) b 64 (fC 2300 ax 1 neg (.slice (some ⟨g, 0, none⟩) n2 Z.length) 0) := H2.out.1.set 5 _
    have hx3 : Blk (w2.setCell ⟨b, 5, none⟩ (.slice (some ⟨g, 0, none⟩) n2 Z.length)) bx 64 (fC 2300 ax 1 neg (.slice A n2 c) ex) := H2.out.2.1.set_far hbx 5 _
    have hg3 : Blk (w2.setCell ⟨b, 5, none⟩ (.slice (some ⟨g, 0, none⟩) n2 Z.length)) g 106 (i64s Z) := H2.out.2.2.1.set_far (Nat.ne_of_gt H2.out.2.2.2.2.2.2.2.2.1) 5 _
    have hW3 : Below b w (w2.setCell ⟨b, 5, none⟩ (.slice (some ⟨g, 0, none⟩) n2 Z.length)) := H2.out.2.2.2.2.2.2.2.2.2.setCell (p := ⟨b, 5, none⟩) (Nat.le_refl _) _
    have HO3 : OwnN (w2.setCell ⟨b, 5, none⟩ (.slice (some ⟨g, 0, none⟩) n2 Z.length)) w1.heap.size m (.slice (some ⟨g, 0, none⟩) n2 Z.length) := OwnN.setF HO22.out H2.out.1 5 _
    obtain ⟨w3, hw3⟩ : ∃ W, w2.setCell ⟨b, 5, none⟩ (.slice (some ⟨g, 0, none⟩) n2 Z.length) = W := ⟨_, rfl⟩
    rw [hw3] at hb3 hx3 hg3 hW3 HO3 ⊢
    have H3 := Lib.hid (And.intro hb3 (And.intro hx3 (And.intro hg3 hW3)))
    clear hb3 hx3 hg3 hW3 hw3 x0 x1 x2 x3 x4 x5 x6 z0 z1 z2 z3 z4 z5 z6 f0 f1 f2 f3 f4 f5 f6 y0 y1 y2 y3 y4 y5 y6 g0 g1 g2 g3 g4 g5 g6
    obtain ⟨x0, x1, x2, x3, x4, x5, x6⟩ := sev H3.out.2.1
    obtain ⟨z0, z1, z2, z3, z4, z5, z6⟩ := sev H3.out.1
    obtain ⟨g0, g1, g2, g3, g4, g5, g6⟩ := frz H3.out.1
    have HOO : Hid (OwnN (w3.setCell ⟨b, 6, none⟩ (.int .i32 ex)) w1.heap.size m (.slice (some ⟨g, 0, none⟩) n2 Z.length)) := HO3.setF H3.out.1 6 _
    have HB4 := Lib.hid (H3.out.1.set 6 (.int .i32 ex))
    have HW4 := Lib.hid (H3.out.2.2.2.setCell (p := ⟨b, 6, none⟩) (Nat.le_refl _) (.int .i32 ex))
    clear HO3
    go_wp2
    go_ret
    exact ⟨rfl, ⟨_, w1.heap.size, HB4.out, HOO.out, H1.out.1.lt⟩, HW4.out⟩)
set_option maxHeartbeats 4000000 in
set_option maxRecDepth 100000 in
theorem copy_zero (b bx : Nat) (ax ex : Int) (neg : Bool) (v : Value) (w : World) (hb : Blk w b 64 (fC 2300 0 0 false (.slice none 0 0) 0)) (hx : Blk w bx 64 (fC 2300 ax 0 neg v ex)) (hne : b ≠ bx) :
    Calls Tryz.prog 107 #[.pointer (some ⟨b, 0, none⟩), .pointer (some ⟨bx, 0, none⟩)] w fun e w' => e = .returned (.pointer (some ⟨b, 0, none⟩)) ∧ Blk w' b 64 (fC 2300 ax 0 neg (.slice none 0 0) 0) ∧ Below b w w' := by
  obtain ⟨x0, x1, x2, x3, x4, x5, x6⟩ := sev hx
  obtain ⟨z0, z1, z2, z3, z4, z5, z6⟩ := sev hb
  obtain ⟨f0, f1, f2, f3, f4, f5, f6⟩ := frz hb
  have hbx : ¬ bx = b := fun h => hne h.symm
  have hneq1 := neq_flt_other w (a := ⟨b, 0, none⟩) (b := ⟨bx, 0, none⟩) (by intro h; injection h with h; exact hne h) hb hx
  have k1 := Lib.hid hb
  clear hb hx
  go_enter Tryz.func107, Tryz.ntmps107
  go_wp2
  go_ret
  exact ⟨rfl, (((((k1.out.set 0 (.int .u32 2300)).set 1 (.int .u8 0)).set 2 (.int .i8 ax)).set 3 (.int .u8 0)).set 4 (.bool neg)), ((((((Below.refl b w).setCell (p := ⟨b, 0, none⟩) (Nat.le_refl _) (.int .u32 2300)).setCell (p := ⟨b, 1, none⟩) (Nat.le_refl _) (.int .u8 0)).setCell (p := ⟨b, 2, none⟩) (Nat.le_refl _) (.int .i8 ax)).setCell (p := ⟨b, 3, none⟩) (Nat.le_refl _) (.int .u8 0)).setCell (p := ⟨b, 4, none⟩) (Nat.le_refl _) (.bool neg))⟩
end Go.Proofs.YtfgdmiigmcnmpaaGreatFmt

namespace Go.Proofs.YtfgdmiigmcnmpaaGreatFmt
open Go.RowKit
attribute [local go_sem ↓] Go.wp_at_zero Go.wp_at_succ

/-! ### SetMantExp -/
set_option maxHeartbeats 1000000 in
set_option maxRecDepth 100000 in
theorem setmant_fin (b bx n m B : Nat) (ax ex k : Int) (neg : Bool) (v : Value) (w : World) (hb : Blk w b 64 (fC 2300 0 0 false (.slice none 0 0) 0)) (hx : Blk w bx 64 (fC 2300 ax 1 neg v ex)) (hO : OwnN w B m v) (hne : b ≠ bx)
    (hbl : bl m = 64 * n) (h0 : 0 < n) (h35 : n ≤ 35) (he : -20000 ≤ ex + k ∧ ex + k ≤ 20000) (hexb : -20000 ≤ ex ∧ ex ≤ 20000) :
    Calls Tryz.prog 80 #[.pointer (some ⟨b, 0, none⟩), .pointer (some ⟨bx, 0, none⟩), .int .i64 k] w fun e w' => e = .returned (.pointer (some ⟨b, 0, none⟩)) ∧ CopyP w' b m 0 1 (ex + k) neg ∧ Below b w w' := by
  have HC := Lib.hid (copy_fin b bx n m B ax ex neg v w hb hx hO hne hbl h0 h35)
  have hm0 : m ≠ 0 := by intro h; subst h; rw [bl_zero] at hbl; omega
  have hwx : wrap64 ex = ex := by unfold wrap64; omega
  have hwe : wrap64 (ex + k) = ex + k := by unfold wrap64; omega
  have HE := Lib.hid he
  have HM := Lib.hid (And.intro hm0 (And.intro hbl h35))
  clear hb hx hO hne hbl h0 h35 he hm0 hexb
  go_enter Tryz.func80, Tryz.ntmps80
  go_wp2_with fail
  refine HC.out.mono ?_
  rintro e w1 ⟨rfl, ⟨v', B', hb1, hO1, hbB⟩, hW1⟩
  obtain ⟨A, n', c, rfl, _⟩ := hO1.shape
  have hw := hO1.words HM.out.1
  have hn35 : n' ≤ 35 := by have := HM.out.2; omega
  have H1 := Lib.hid (And.intro hb1 (And.intro hO1 hW1))
  have HBB := Lib.hid hbB
  have HSE := Lib.hid (setexp_calls b n' c ax 1 ex (ex + k) neg A w1 hb1 hn35 HE.out)
  obtain ⟨z0, z1, z2, z3, z4, z5, z6⟩ := sev hb1
  clear hb1 hO1 hW1 hw hn35 hbB
  go_wp2_with fail
  rw [hwx, hwe]
  refine HSE.out.mono ?_
  rintro e w2 ⟨rfl, hb2, hW2⟩
  have H2 : Hid (Blk w2 b 64 (fC 2300 0 1 neg (.slice A n' c) (ex + k)) ∧ OwnN w2 B' m (.slice A n' c) ∧ Below b w w2) := ⟨hb2, H1.out.2.1.only hW2 HBB.out, H1.out.2.2.trans (hW2.below.mono (Nat.le_refl _))⟩
  clear hb2 hW2
  go_wp2
  go_ret
  exact ⟨rfl, ⟨_, B', H2.out.1, H2.out.2.1, HBB.out⟩, H2.out.2.2⟩
set_option maxHeartbeats 1000000 in
set_option maxRecDepth 100000 in
theorem setmant_zero (b bx : Nat) (ax ex k : Int) (neg : Bool) (v : Value) (w : World) (hb : Blk w b 64 (fC 2300 0 0 false (.slice none 0 0) 0)) (hx : Blk w bx 64 (fC 2300 ax 0 neg v ex)) (hne : b ≠ bx) :
    Calls Tryz.prog 80 #[.pointer (some ⟨b, 0, none⟩), .pointer (some ⟨bx, 0, none⟩), .int .i64 k] w fun e w' => e = .returned (.pointer (some ⟨b, 0, none⟩)) ∧ Blk w' b 64 (fC 2300 ax 0 neg (.slice none 0 0) 0) ∧ Below b w w' := by
  have HC := Lib.hid (copy_zero b bx ax ex neg v w hb hx hne)
  clear hb hx hne
  go_enter Tryz.func80, Tryz.ntmps80
  go_wp2_with fail
  refine HC.out.mono ?_
  rintro e w1 ⟨rfl, hb1, hW1⟩
  have H1 := Lib.hid (And.intro hb1 hW1)
  obtain ⟨z0, z1, z2, z3, z4, z5, z6⟩ := sev hb1
  clear hb1 hW1
  go_wp2
  go_ret
  exact ⟨rfl, H1.out.1, H1.out.2⟩
theorem setmant_calls (b bx K K' L : Nat) (k X : Int) (w : World) (hb : Blk w b 64 (fC 2300 0 0 false (.slice none 0 0) 0)) (hx : FVal w K 1 bx X) (hne : b ≠ bx) (hX : X.natAbs < 2 ^ L) (hK : (K' : Int) = K - k) (hL : L ≤ 9000) (hKb : K ≤ 9000) (hk : -4000 ≤ k ∧ k ≤ 4000) :
    Calls Tryz.prog 80 #[.pointer (some ⟨b, 0, none⟩), .pointer (some ⟨bx, 0, none⟩), .int .i64 k] w fun e w' => e = .returned (.pointer (some ⟨b, 0, none⟩)) ∧ FVal w' K' 1 b X ∧ Below b w w' := by
  obtain ⟨ax, form, neg, v, ex, hxb, hv⟩ := hx
  rcases hv with ⟨rfl, rfl⟩ | ⟨rfl, B, m, n, hO, hbl, h0, hn, hz, rfl, he⟩
  · refine (setmant_zero b bx ax ex k neg v w hb hxb hne).mono ?_
    rintro e w' ⟨rfl, h1, h2⟩
    exact ⟨rfl, ⟨ax, 0, neg, _, 0, h1, .inl ⟨rfl, rfl⟩⟩, h2⟩
  · have g := ex_bd hbl h0 hz neg hX
    refine (setmant_fin b bx n m B ax ex k neg v w hb hxb hO hne hbl h0 (by omega) (by omega) (by omega)).mono ?_
    rintro e w' ⟨rfl, ⟨v', B', h1, h2, -⟩, h3⟩
    refine ⟨rfl, ⟨0, 1, neg, v', ex + k, h1, .inr ⟨rfl, B', m, n, h2, hbl, h0, hn, by omega, ?_, by omega⟩⟩, h3⟩
    have e1 : (ex + k - ((64 * n : Nat) : Int) + K').toNat = (ex - ((64 * n : Nat) : Int) + K).toNat := by omega
    rw [e1]
end Go.Proofs.YtfgdmiigmcnmpaaGreatFmt

namespace Go.Proofs.YtfgdmiigmcnmpaaGreatFmt
open Go.RowKit
attribute [local go_sem ↓] Go.wp_at_zero Go.wp_at_succ

/-! ### round.Scale -/
set_option exponentiation.threshold 9000 in
theorem scale_arg_bd {u : Nat} (hu : u < 18446744073709551616) (hf : fin u = true) : (fv u * ((2 ^ (6200 - 1074) : Nat) : Int)).natAbs < 2 ^ 7224 := by
  rw [Int.natAbs_mul, Int.natAbs_natCast]
  have h := Nat.mul_lt_mul_of_pos_right (fv_bd hu hf) (Nat.pow_pos (n := 6200 - 1074) (a := 2) (by decide))
  rwa [← Nat.pow_add] at h
set_option exponentiation.threshold 9000 in
set_option maxHeartbeats 400000 in
set_option maxRecDepth 100000 in
theorem rscale_calls (d : Int) (u : Nat) (n : Int) (hu : u < 18446744073709551616) (w : World) :
    Calls Tryz.prog 46 #[.int .i64 d, .float .f64 u, .int .i64 n] w fun e w' => e = fRet2 (scaleS 4000 d u n) ∧ Below w.heap.size w w' := by
  have HP := Lib.hid (fun W => pair_calls d u 0 hu (by decide) W)
  obtain ⟨b, hb⟩ : ∃ b, pairB d u 0 = b := ⟨_, rfl⟩
  rw [hb] at HP
  cases b
  · have HR : Hid (scaleS 4000 d u n = none) := scale_none hb
    clear hb hu
    go_enter Tryz.func46, Tryz.ntmps46
    go_wp2_with fail
    refine (HP.out _).mono ?_
    rintro e w' ⟨rfl, rfl⟩
    go_wp2
    go_ret2
    exact ⟨ret2_none HR.out, Below.refl _ _⟩
  · obtain ⟨fu, -, hd1, hd2⟩ := pairB_true hb
    have hcb := clamp_bd (b := 4000) (n := n) (by decide)
    obtain ⟨K, hK⟩ : ∃ K : Nat, (K : Int) = 6200 - clampS 4000 n := ⟨(6200 - clampS 4000 n).toNat, by omega⟩
    have HVAL : Hid (rndS d K (fv u * ((2 ^ (6200 - 1074) : Nat) : Int)) = scaleS 4000 d u n) := (scale_at hb hK).symm
    have hXb := scale_arg_bd hu fu
    have HEU := Lib.hid (fun W => exact_calls u 6200 hu fu (by decide) W)
    have HSP := Lib.hid (fun W => setprec_calls w.heap.size W)
    have hcs : (n < -4000 ∧ clampS 4000 n = -4000) ∨ ((-4000 ≤ n ∧ n ≤ 4000) ∧ clampS 4000 n = n) ∨ (4000 < n ∧ clampS 4000 n = 4000) := by unfold clampS; omega
    obtain ⟨k, hk⟩ : ∃ k, clampS 4000 n = k := ⟨_, rfl⟩
    rw [hk] at hcs hcb hK
    have HSM := Lib.hid (fun W b1 (hz : Blk W w.heap.size 64 (fC 2300 0 0 false (.slice none 0 0) 0)) (hx : FVal W 6200 1 b1 (fv u * ((2 ^ (6200 - 1074) : Nat) : Int))) (h1 : w.heap.size ≠ b1) => setmant_calls w.heap.size b1 6200 K 7224 k _ W hz hx h1 hXb hK (by decide) (by decide) hcb)
    have HT := Lib.hid (fun W X (hx : FVal W K 1 w.heap.size X) => ftold_calls d w.heap.size K 1 X W hx (by decide) (by omega) ⟨hd1, hd2⟩)
    have HN := Lib.hid (float_new w)
    have HW := Lib.hid (below_new (Below.refl w.heap.size w) (.cells #[.int .u32 0, .int .u8 0, .int .i8 0, .int .u8 0, .bool false, .slice none 0 0, .int .i32 0] 64))
    obtain ⟨o, ho⟩ : ∃ o, scaleS 4000 d u n = o := ⟨_, rfl⟩
    obtain ⟨X, hX⟩ : ∃ X, fv u * ((2 ^ (6200 - 1074) : Nat) : Int) = X := ⟨_, rfl⟩
    rw [ho] at HVAL ⊢
    rw [hX] at HVAL HEU HSM
    clear hb hu fu hd1 hd2 hXb ho hX hk hK hcb
    rcases hcs with ⟨hc, rfl⟩ | ⟨⟨hc, hc2⟩, rfl⟩ | ⟨hc, rfl⟩
    · have c1 : ¬ (-4000 < n) := by omega
      have c2 : ¬ (-4000 ≤ n) := by omega
      go_enter Tryz.func46, Tryz.ntmps46
      go_wp2_with fail
      refine (HP.out _).mono ?_
      rintro e w' ⟨rfl, rfl⟩
      go_wp2_with fail
      refine (HSP.out _ HN.out).mono ?_
      rintro e w1 ⟨rfl, hz1, hW1⟩
      have H1 := Lib.hid (And.intro hz1 (HW.out.trans hW1))
      clear hz1 hW1
      go_wp2_with fail
      refine (HEU.out _).mono ?_
      rintro e w2 ⟨rfl, hx2, hW2⟩
      have H2 := Lib.hid (And.intro hx2 hW2)
      clear hx2 hW2
      go_wp2_with fail
      have hs1 : w.heap.size < w1.heap.size := H1.out.1.lt
      refine (HSM.out w2 w1.heap.size (H1.out.1.below' H2.out.2) H2.out.1 (by omega)).mono ?_
      rintro e w4 ⟨rfl, hf, hW4⟩
      have H4 : Hid (FVal w4 K 1 w.heap.size X ∧ Below w.heap.size w w4) := ⟨hf, (H1.out.2.trans (H2.out.2.mono (Nat.le_of_lt hs1))).trans hW4⟩
      clear hf hW4
      go_wp2_with fail
      have HT4 := Lib.hid (HT.out w4 _ H4.out.1)
      rw [HVAL.out] at HT4
      refine HT4.out.mono ?_
      rintro e w5 ⟨rfl, hW5⟩
      have H5 := Lib.hid (H4.out.2.trans (hW5.mono H4.out.2.size))
      clear hW5 hs1
      unfold fRet2
      go_wp2
      go_ret2
      exact ⟨rfl, H5.out⟩
    · have c1 : ¬ (k < -4000) := by omega
      have c2 : ¬ (4000 < k) := by omega
      go_enter Tryz.func46, Tryz.ntmps46
      go_wp2_with fail
      refine (HP.out _).mono ?_
      rintro e w' ⟨rfl, rfl⟩
      go_wp2_with fail
      refine (HSP.out _ HN.out).mono ?_
      rintro e w1 ⟨rfl, hz1, hW1⟩
      have H1 := Lib.hid (And.intro hz1 (HW.out.trans hW1))
      clear hz1 hW1
      go_wp2_with fail
      refine (HEU.out _).mono ?_
      rintro e w2 ⟨rfl, hx2, hW2⟩
      have H2 := Lib.hid (And.intro hx2 hW2)
      clear hx2 hW2
      go_wp2_with fail
      have hs1 : w.heap.size < w1.heap.size := H1.out.1.lt
      refine (HSM.out w2 w1.heap.size (H1.out.1.below' H2.out.2) H2.out.1 (by omega)).mono ?_
      rintro e w4 ⟨rfl, hf, hW4⟩
      have H4 : Hid (FVal w4 K 1 w.heap.size X ∧ Below w.heap.size w w4) := ⟨hf, (H1.out.2.trans (H2.out.2.mono (Nat.le_of_lt hs1))).trans hW4⟩
      clear hf hW4
      go_wp2_with fail
      have HT4 := Lib.hid (HT.out w4 _ H4.out.1)
      rw [HVAL.out] at HT4
      refine HT4.out.mono ?_
      rintro e w5 ⟨rfl, hW5⟩
      have H5 := Lib.hid (H4.out.2.trans (hW5.mono H4.out.2.size))
      clear hW5 hs1
      unfold fRet2
      go_wp2
      go_ret2
      exact ⟨rfl, H5.out⟩
    · have c1 : ¬ (n < -4000) := by omega
      have c2 : ¬ (n ≤ 4000) := by omega
      have c3 : -4000 ≤ n := by omega
      have c4 : -4000 < n := by omega
      have c5 : ¬ (n < 4000) := by omega
      go_enter Tryz.func46, Tryz.ntmps46
      go_wp2_with fail
      refine (HP.out _).mono ?_
      rintro e w' ⟨rfl, rfl⟩
      go_wp2_with fail
      refine (HSP.out _ HN.out).mono ?_
      rintro e w1 ⟨rfl, hz1, hW1⟩
      have H1 := Lib.hid (And.intro hz1 (HW.out.trans hW1))
      clear hz1 hW1
      go_wp2_with fail
      refine (HEU.out _).mono ?_
      rintro e w2 ⟨rfl, hx2, hW2⟩
      have H2 := Lib.hid (And.intro hx2 hW2)
      clear hx2 hW2
      go_wp2_with fail
      have hs1 : w.heap.size < w1.heap.size := H1.out.1.lt
      refine (HSM.out w2 w1.heap.size (H1.out.1.below' H2.out.2) H2.out.1 (by omega)).mono ?_
      rintro e w4 ⟨rfl, hf, hW4⟩
      have H4 : Hid (FVal w4 K 1 w.heap.size X ∧ Below w.heap.size w w4) := ⟨hf, (H1.out.2.trans (H2.out.2.mono (Nat.le_of_lt hs1))).trans hW4⟩
      clear hf hW4
      go_wp2_with fail
      have HT4 := Lib.hid (HT.out w4 _ H4.out.1)
      rw [HVAL.out] at HT4
      refine HT4.out.mono ?_
      rintro e w5 ⟨rfl, hW5⟩
      have H5 := Lib.hid (H4.out.2.trans (hW5.mono H4.out.2.size))
      clear hW5 hs1
      unfold fRet2
      go_wp2
      go_ret2
      exact ⟨rfl, H5.out⟩
end Go.Proofs.YtfgdmiigmcnmpaaGreatFmt
