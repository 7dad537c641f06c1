/- Walks and plain laws of this seat's functions, part 26: G17c01. -/
import Derived.Test.YtikdhkmcdmnadaaGreatFmtJ25
set_option linter.unusedVariables false
set_option linter.unusedSimpArgs false
namespace Go.Proofs.YtikdhkmcdmnadaaGreatFmt
open Go.RowKit
attribute [local go_sem ↓] Go.wp_at_zero Go.wp_at_succ

set_option maxHeartbeats 8000000 in
set_option maxRecDepth 100000 in
theorem round_c01 (b g n p hv m : Nat) (Z : List Nat) (acc ex : Int) (neg rest : Bool) (w : World) (hb : Blk w b 82 (fP p acc neg (.slice (some ⟨g, 0, none⟩) n Z.length) ex)) (hg : Blk w g 109 (i64s Z)) (hz : ∀ d ∈ Z, d < B64) (hn : n ≤ Z.length) (hl : Z.length ≤ 1099511627776)
    (hm : val B64 (Z.take n) = m) (hbl : bl m = 64 * n) (h0 : 0 < n) (h35 : n ≤ 35) (hp0 : 0 < p) (hp53 : p ≤ 53) (hex : -20000 ≤ ex ∧ ex ≤ 20000) (hh : hv = m / 2 ^ (64 * n - p - 1)) (hr : rest = restB (m % 2 ^ (64 * n - p - 1))) (hrb0 : hv % 2 = 0) (hrest : rest = true) :
    Calls Tryz.prog 64 #[.pointer (some ⟨b, 0, none⟩), .int .u64 0] w fun e w' => e = .returned (.tuple #[]) ∧ RCut b g p hv neg rest ex Z.length w w' := by
  obtain ⟨c0, c1, c2, c3, c4, c5, c6⟩ := sev hb
  obtain ⟨f0, f1, f2, f3, f4, f5, f6⟩ := frz hb
  have hbg : b ≠ g := (hg.ne hb (by decide)).symm
  have hxl : (Z.take n).length = n := by rw [List.length_take]; omega
  obtain ⟨t, hct, hft, htb, hte⟩ := hg.at64 (i := n - 1) (by omega) hz
  have htop : t = m / 2 ^ (64 * (n - 1)) := by
    have h1 := val_split1 B64 (Z.take n) (n - 1) (by omega)
    have hlt := val_lt (B := B64) (by decide) ((Z.take n).take (n - 1)) (fun d hd => hz d (List.mem_of_mem_take (List.mem_of_mem_take hd)))
    have e1 : (Z.take n).getD (n - 1) 0 = t := by rw [List.getD_eq_getElem?_getD, List.getElem?_take, if_pos (by omega), ← List.getD_eq_getElem?_getD]; exact hte.out
    have e2 : (Z.take n).drop (n - 1 + 1) = [] := List.drop_of_length_le (by omega)
    rw [List.length_take, Nat.min_eq_left (by omega), pow64] at hlt
    rw [hm, e1, e2, pow64] at h1
    simp only [val, Nat.mul_zero, Nat.add_zero] at h1
    rw [h1, Nat.add_mul_div_left _ _ (Nat.pow_pos (by decide)), Nat.div_eq_of_lt hlt, Nat.zero_add]
  have hct1 := cut_top hbl h0 hp0 hp53 htop hh
  obtain ⟨R, hR⟩ : ∃ R, 64 * n - p - 1 = R := ⟨_, rfl⟩
  rw [hR] at hh hr
  obtain ⟨s, hs⟩ : ∃ s, 64 - p = s := ⟨_, rfl⟩
  have e1 : (n : Int) * 64 - (p : Int) - 1 = (R : Int) := by omega
  have e2 : (64 : Int) - (p : Int) = (s : Int) := by omega
  have HBIT := Lib.hid (fun W (hW : Only b w W) => nbit_calls (some ⟨g, 0, none⟩) n Z.length 109 0 R (Z.take n) W hxl (u64row ((hW.block g (Ne.symm hbg)).trans hg) hz n) (by omega) (by omega))
  have HSTK := Lib.hid (fun W (hW : Only b w W) => nsticky_calls (some ⟨g, 0, none⟩) n Z.length 109 0 R (Z.take n) W hxl (u64row ((hW.block g (Ne.symm hbg)).trans hg) hz n) (by omega) (by omega) hn hl)
  rw [hm, ← hh] at HBIT
  rw [hm, ← hr] at HSTK
  have u1 := u32w n (by omega)
  have u2 : IntKind.u32.wrap ((n : Int) * 64) = (n : Int) * 64 := u32wi _ (by omega)
  have u3 : ¬ ((n : Int) * 64 ≤ (p : Int)) := by omega
  have u4 : IntKind.u32.wrap ((n : Int) * 64 - (p : Int)) = (n : Int) * 64 - (p : Int) := u32wi _ (by omega)
  have u5 : IntKind.u32.wrap (R : Int) = R := u32w R (by omega)
  have u6 : IntKind.u64.wrap (R : Int) = R := u64w R (by omega)
  have u7 : IntKind.u32.wrap ((p : Int) + 63) = (p : Int) + 63 := u32wi _ (by omega)
  have u8 : ((p : Int) + 63) / 64 = 1 := by omega
  have HO0 := Lib.hid ((Only.refl b w).setCell (p := ⟨b, 2, none⟩) rfl (.int .i8 0))
  have HB := Lib.hid (And.intro hb (And.intro hg (And.intro hz (And.intro hn (And.intro hl hte.out)))))
  have HN := Lib.hid (And.intro h0 (And.intro h35 (And.intro hp0 (And.intro hp53 (And.intro hex hs)))))
  have HT := Lib.hid (And.intro hct1 htb)
  obtain ⟨rb, hrb⟩ : ∃ r, hv % 2 = r := ⟨_, rfl⟩
  have hrb2 : rb = 0 ∨ rb = 1 := by omega
  rw [hrb] at HBIT
  have HRB := Lib.hid hrb
  clear hb hg hz hn hl hm hbl h35 hp0 hp53 hex hh hr hxl htop hte htb hct1 hR hs hrb
  obtain ⟨k, hk⟩ : ∃ k, n - 1 = k := ⟨_, rfl⟩
  rw [hk] at hct hft
  have HK := Lib.hid hk
  have u9 : IntKind.u32.wrap ((n : Int) - 1) = (k : Int) := by rw [u32wi _ (by have := HN.out; omega)]; have := HN.out; omega
  have hsl1 : n ≠ 1 → ∀ W, (Instr.slice 80 (.slice (some ⟨g, 0, none⟩) n Z.length) (some (.int .u32 (k : Int))) none none).run Tryz.prog W = .ok (.slice (some ⟨g, k, none⟩) 1 (Z.length - k)) W := fun h W => by
    have := slice_from32 80 (by kernel_rfl) W g n Z.length k k rfl (by have := HN.out; omega) HB.out.2.2.2.1
    rwa [show n - k = 1 from by have := HN.out; omega] at this
  have hsl2 := fun W => slice_to32 80 (by kernel_rfl) W (some ⟨g, 0, none⟩) n Z.length 1 1 rfl (by have := HN.out; have := HB.out.2.2.2.1; omega)
  have hsl3 := fun W => slice_to32 80 (by kernel_rfl) W (some ⟨g, 0, none⟩) n Z.length 1 _ u8 (by have := HN.out; have := HB.out.2.2.2.1; omega)
  obtain ⟨RR, hRR⟩ : ∃ R, (i64s (t :: Z.drop 1)).toArray = R := ⟨_, rfl⟩
  have hcp : n ≠ 1 → ∀ ty, (Builtin.copy_ #[80, 80] ty #[.slice (some ⟨g, 0, none⟩) n Z.length, .slice (some ⟨g, k, none⟩) 1 (Z.length - k)]).run Tryz.prog ((w.setCell ⟨b, 2, none⟩ (.int .i8 0)).drew) = .ok (.int .i64 1) (((w.setCell ⟨b, 2, none⟩ (.int .i8 0)).drew).setRow g RR) := fun h ty => by
    rw [← hRR]
    exact copy_top (w := (w.setCell ⟨b, 2, none⟩ (.int .i8 0)).drew) (HB.out.2.1.set_far (Ne.symm hbg) 2 _) n k t _ ty (by have := HN.out; omega) HB.out.2.2.2.1 (cell_far (by exact (Ne.symm hbg)) hct)
  have HRR := Lib.hid hRR
  clear hk hRR
  obtain rfl : rb = 0 := HRB.out.symm.trans hrb0
  subst hrest
  clear hrb0 hrb2
  have b1 : bits .and .u64 0 1 = 0 := by decide
  have b2 : bits .and .u64 1 1 = 1 := by decide
  go_enter Tryz.func64, Tryz.ntmps64
  go_wp2_with fail
  refine (HBIT.out _ HO0.out).mono ?_
  rintro e w' ⟨rfl, rfl⟩
  go_wp2_with fail
  refine (HSTK.out _ HO0.out).mono ?_
  rintro e w' ⟨rfl, rfl⟩
  go_upto_if 80 with fail
  go_cut [8] (fun s8 wx => s8 = .int .u32 1 ∧ ∃ Z1 : List Nat, Blk wx b 82 (fP p 0 neg (.slice (some ⟨g, 0, none⟩) 1 Z.length) ex) ∧ Blk wx g 109 (i64s Z1) ∧ Z1.length = Z.length ∧ (∀ d ∈ Z1, d < B64) ∧ Z1.getD 0 0 = t ∧ Below (min b g) w wx)
  case first =>
    by_cases hn1 : n = 1
    · subst hn1
      have e3 : Hid (0 = k) := by have := HK.out; rw [Hid]; omega
      clear hsl1 hsl2 hsl3 hcp
      go_wp2
      go_meet
      obtain ⟨k1, k2, k3, k4, k5, k6⟩ := HB.out
      refine ⟨by rw [u8], Z, k1.set 2 (.int .i8 0), k2.set_far (Ne.symm hbg) 2 _, rfl, k3, by rw [show 1 - 1 = 0 from rfl] at k6; exact k6, ((HO0.out.below).mono (Nat.min_le_left _ _))⟩
    · have hn2 : (1 : Int) < (n : Int) := by have := HN.out; omega
      have hsl1' := hsl1 hn1
      have hcp' := hcp hn1
      have HN1 := Lib.hid hn1
      clear hsl1 hcp hn1
      go_wp2
      go_region
      all_goals (
        obtain ⟨k1, k2, k3, k4, k5, k6⟩ := HB.out
        have hb3 : Blk (((w.setCell ⟨b, 2, none⟩ (.int .i8 0)).drew).setRow g RR) b 82 (fP p 0 neg (.slice (some ⟨g, 0, none⟩) n Z.length) ex) := (setRow_other _ g b RR hbg).trans (k1.set 2 (.int .i8 0))
        have hg3 : Blk (((w.setCell ⟨b, 2, none⟩ (.int .i8 0)).drew).setRow g RR) g 109 (i64s (t :: Z.drop 1)) := by
          rw [← HRR.out]; exact Blk.setRow (w := (w.setCell ⟨b, 2, none⟩ (.int .i8 0)).drew) (k2.set_far (Ne.symm hbg) 2 _) _
        have hW3 : Below (min b g) w (((w.setCell ⟨b, 2, none⟩ (.int .i8 0)).drew).setRow g RR) := below_setRow ((HO0.out.below.mono (Nat.min_le_left _ _)).drew) (Nat.min_le_right _ _) RR
        have HZ3 : Hid ((t :: Z.drop 1).length = Z.length ∧ (∀ d ∈ t :: Z.drop 1, d < B64)) := by
          refine ⟨by simp; have := HN.out; omega, fun d hd => ?_⟩
          rcases List.mem_cons.1 hd with h | h
          · rw [h]; exact HT.out.2
          · exact k3 d (List.mem_of_mem_drop h)
        obtain ⟨w3, hw3⟩ : ∃ W, ((w.setCell ⟨b, 2, none⟩ (.int .i8 0)).drew).setRow g RR = W := ⟨_, rfl⟩
        rw [hw3] at hb3 hg3 hW3 ⊢
        have H3 := Lib.hid (And.intro hb3 (And.intro hg3 hW3))
        clear k1 k2 k3 k4 k5 k6 hw3 hb3 hg3 hW3 hcp'
        obtain ⟨d0, d1, d2, d3, d4, d5, d6⟩ := sev H3.out.1
        obtain ⟨g0, g1, g2, g3, g4, g5, g6⟩ := frz H3.out.1
        go_wp2
        all_goals (
          go_meet
          refine ⟨by rw [u8], t :: Z.drop 1, H3.out.1.set 5 _, H3.out.2.1.set_far (Ne.symm hbg) 5 _, HZ3.out.1, HZ3.out.2, rfl, ?_⟩
          exact H3.out.2.2.setCell (p := ⟨b, 5, none⟩) (Nat.min_le_left _ _) _))
  case rest =>
    obtain ⟨rfl, Z1, hb1, hg1, hl1, hz1, ht1, hW1⟩ := hcut
    have H1 := Lib.hid (And.intro hb1 (And.intro hg1 (And.intro hl1 (And.intro hz1 (And.intro ht1 hW1)))))
    clear c0 c1 c2 c3 c4 c5 c6 f0 f1 f2 f3 f4 f5 f6 hct hft u1 u2 u4 u5 u6 u7 u9 hsl1 hsl2 hsl3 hcp
    obtain ⟨c0, c1, c2, c3, c4, c5, c6⟩ := sev hb1
    obtain ⟨f0, f1, f2, f3, f4, f5, f6⟩ := frz hb1
    obtain ⟨t', hct, hft, htb', hte'⟩ := hg1.at64 (i := 0) (by rw [hl1]; have := HN.out; have := HB.out.2.2.2.1; omega) hz1
    obtain rfl : t' = t := hte'.out.symm.trans ht1
    have v1 : IntKind.u32.wrap (s : Int) = s := u32w s (by have := HN.out; omega)
    have v2 : (s : Int) < 64 := by have := HN.out; omega
    have o1 : bits .or .u64 0 0 = 0 := by decide
    have o2 : bits .or .u64 0 1 = 1 := by decide
    have o3 : bits .or .u64 1 0 = 1 := by decide
    have o4 : bits .or .u64 1 1 = 1 := by decide
    obtain ⟨l, hl⟩ : ∃ l, 2 ^ s = l := ⟨_, rfl⟩
    obtain ⟨q, hq⟩ : ∃ q, hv / 2 = q := ⟨_, rfl⟩
    have hl0 : 0 < l := by rw [← hl]; exact Nat.pow_pos (by decide)
    have hl64 : l < 18446744073709551616 := by
      rw [← hl]; exact Nat.lt_of_le_of_lt (Nat.pow_le_pow_right (by decide) (show s ≤ 63 by have := HN.out; omega)) (by decide)
    have v3 : IntKind.u64.wrap ((2 : Int) ^ s) = (l : Int) := by
      have e : ((2 : Int) ^ s) = ((2 ^ s : Nat) : Int) := by rw [Int.natCast_pow]; rfl
      rw [e, hl]; exact u64w l hl64
    have v4 : IntKind.u64.wrap ((l : Int) - 1) = ((l - 1 : Nat) : Int) := by
      rw [show (l : Int) - 1 = ((l - 1 : Nat) : Int) from by omega]; exact u64w _ (by omega)
    have hsp : 64 - p = s := HN.out.2.2.2.2.2
    have hT := HT.out.1
    rw [hsp, hl, hq] at hT
    have v5 : bits .andNot .u64 (t' : Int) ((l - 1 : Nat) : Int) = ((q * l : Nat) : Int) := by
      have := andNot_low (t := t') (j := s) HT.out.2 (by omega)
      rw [hl, hT.1] at this
      exact this
    have hq2 : q < 2 ^ p := by have := hT.2.2.1; rw [Nat.pow_succ] at this; omega
    have HQ : Hid (t' / l = q ∧ hv / 2 = q ∧ q < 2 ^ p ∧ 2 ^ s = l ∧ 64 - p = s ∧ 0 < l ∧ l < 18446744073709551616) := ⟨hT.1, hq, hq2, hl, hsp, hl0, hl64⟩
    obtain ⟨ql, hql⟩ : ∃ z, q * l = z := ⟨_, rfl⟩
    rw [hql] at v5
    have HQL := Lib.hid hql
    have HQLB : Hid (ql < B64) := by
      have h1 := Nat.div_mul_le_self t' l
      rw [HQ.out.1, hql] at h1
      have := HT.out.2
      simp only [Hid, B64]; omega
    have HZW : Hid (∀ x, (Z1.set 0 x).getD 0 0 = x) := fun x => by
      rw [List.getD_eq_getElem?_getD, List.getElem?_set_self (by rw [hl1]; have := HN.out; have := HB.out.2.2.2.1; omega)]; rfl
    clear hb1 hg1 hl1 hz1 hW1 htb' hte' ht1 hl hq hl0 hl64 hsp hT hq2 hql
    cases neg
    all_goals (
      go_wp2_with fail
      refine (makeacc_calls _ _).mono ?_
      rintro e w' ⟨rfl, rfl⟩
      go_wp2
      go_end0
      obtain ⟨k1, k2, k3, k4, k5, k6⟩ := H1.out
      have hq0 := HQ.out
      refine ⟨rfl, RCut.intro (mo := false) (acc := _) (W := ql) (X := ex) (Z' := Z1.set 0 ql) (by rw [moreH0, HRB.out]; rfl) (by unfold accM; rw [if_neg (by rw [HRB.out]; simp), moreH0, HRB.out]; rfl) ((k1.set 2 _).set_far hbg 0 _) ((k2.set_far (Ne.symm hbg) 2 _).set64 0 ql _ rfl) (HZW.out _) (by rw [List.length_set]; exact k3) (mem_set k4 HQLB.out) (.inr ⟨by rw [hq0.2.1]; exact hq0.2.2.1, rfl, by rw [hq0.2.1, hq0.2.2.2.2.1, hq0.2.2.2.1]; exact HQL.out.symm⟩) ((k6.setCell (p := ⟨b, 2, none⟩) (Nat.min_le_left _ _) _).setCell (p := ⟨g, 0, none⟩) (Nat.min_le_right _ _) _)⟩)
end Go.Proofs.YtikdhkmcdmnadaaGreatFmt
