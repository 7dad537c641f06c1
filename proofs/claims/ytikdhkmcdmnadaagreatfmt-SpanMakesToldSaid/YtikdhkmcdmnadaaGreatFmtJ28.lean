/- Walks and plain laws of this seat's functions, part 28: G17c11 G17. -/
import Derived.Test.YtikdhkmcdmnadaaGreatFmtJ25
import Derived.Test.YtikdhkmcdmnadaaGreatFmtJ26
import Derived.Test.YtikdhkmcdmnadaaGreatFmtJ27
set_option linter.unusedVariables false
set_option linter.unusedSimpArgs false
namespace Go.Proofs.YtikdhkmcdmnadaaGreatFmt
open Go.RowKit
attribute [local go_sem ↓] Go.wp_at_zero Go.wp_at_succ

set_option maxHeartbeats 8000000 in
set_option maxRecDepth 100000 in
theorem round_c11 (b g n p hv m : Nat) (Z : List Nat) (acc ex : Int) (neg rest : Bool) (w : World) (hb : Blk w b 82 (fP p acc neg (.slice (some ⟨g, 0, none⟩) n Z.length) ex)) (hg : Blk w g 109 (i64s Z)) (hz : ∀ d ∈ Z, d < B64) (hn : n ≤ Z.length) (hl : Z.length ≤ 1099511627776)
    (hm : val B64 (Z.take n) = m) (hbl : bl m = 64 * n) (h0 : 0 < n) (h35 : n ≤ 35) (hp0 : 0 < p) (hp53 : p ≤ 53) (hex : -20000 ≤ ex ∧ ex ≤ 20000) (hh : hv = m / 2 ^ (64 * n - p - 1)) (hr : rest = restB (m % 2 ^ (64 * n - p - 1))) (hrb0 : hv % 2 = 1) (hrest : rest = true) :
    Calls Tryz.prog 64 #[.pointer (some ⟨b, 0, none⟩), .int .u64 0] w fun e w' => e = .returned (.tuple #[]) ∧ RCut b g p hv neg rest ex Z.length w w' := by
  obtain ⟨c0, c1, c2, c3, c4, c5, c6⟩ := sev hb
  obtain ⟨f0, f1, f2, f3, f4, f5, f6⟩ := frz hb
  have hbg : b ≠ g := (hg.ne hb (by decide)).symm
  have hxl : (Z.take n).length = n := by rw [List.length_take]; omega
  obtain ⟨t, hct, hft, htb, hte⟩ := hg.at64 (i := n - 1) (by omega) hz
  have htop : t = m / 2 ^ (64 * (n - 1)) := by
    have h1 := val_split1 B64 (Z.take n) (n - 1) (by omega)
    have hlt := val_lt (B := B64) (by decide) ((Z.take n).take (n - 1)) (fun d hd => hz d (List.mem_of_mem_take (List.mem_of_mem_take hd)))
    have e1 : (Z.take n).getD (n - 1) 0 = t := by rw [List.getD_eq_getElem?_getD, List.getElem?_take, if_pos (by omega), ← List.getD_eq_getElem?_getD]; exact hte.out
    have e2 : (Z.take n).drop (n - 1 + 1) = [] := List.drop_of_length_le (by omega)
    rw [List.length_take, Nat.min_eq_left (by omega), pow64] at hlt
    rw [hm, e1, e2, pow64] at h1
    simp only [val, Nat.mul_zero, Nat.add_zero] at h1
    rw [h1, Nat.add_mul_div_left _ _ (Nat.pow_pos (by decide)), Nat.div_eq_of_lt hlt, Nat.zero_add]
  have hct1 := cut_top hbl h0 hp0 hp53 htop hh
  obtain ⟨R, hR⟩ : ∃ R, 64 * n - p - 1 = R := ⟨_, rfl⟩
  rw [hR] at hh hr
  obtain ⟨s, hs⟩ : ∃ s, 64 - p = s := ⟨_, rfl⟩
  have e1 : (n : Int) * 64 - (p : Int) - 1 = (R : Int) := by omega
  have e2 : (64 : Int) - (p : Int) = (s : Int) := by omega
  have HBIT := Lib.hid (fun W (hW : Only b w W) => nbit_calls (some ⟨g, 0, none⟩) n Z.length 109 0 R (Z.take n) W hxl (u64row ((hW.block g (Ne.symm hbg)).trans hg) hz n) (by omega) (by omega))
  have HSTK := Lib.hid (fun W (hW : Only b w W) => nsticky_calls (some ⟨g, 0, none⟩) n Z.length 109 0 R (Z.take n) W hxl (u64row ((hW.block g (Ne.symm hbg)).trans hg) hz n) (by omega) (by omega) hn hl)
  rw [hm, ← hh] at HBIT
  rw [hm, ← hr] at HSTK
  have u1 := u32w n (by omega)
  have u2 : IntKind.u32.wrap ((n : Int) * 64) = (n : Int) * 64 := u32wi _ (by omega)
  have u3 : ¬ ((n : Int) * 64 ≤ (p : Int)) := by omega
  have u4 : IntKind.u32.wrap ((n : Int) * 64 - (p : Int)) = (n : Int) * 64 - (p : Int) := u32wi _ (by omega)
  have u5 : IntKind.u32.wrap (R : Int) = R := u32w R (by omega)
  have u6 : IntKind.u64.wrap (R : Int) = R := u64w R (by omega)
  have u7 : IntKind.u32.wrap ((p : Int) + 63) = (p : Int) + 63 := u32wi _ (by omega)
  have u8 : ((p : Int) + 63) / 64 = 1 := by omega
  have HO0 := Lib.hid ((Only.refl b w).setCell (p := ⟨b, 2, none⟩) rfl (.int .i8 0))
  have HB := Lib.hid (And.intro hb (And.intro hg (And.intro hz (And.intro hn (And.intro hl hte.out)))))
  have HN := Lib.hid (And.intro h0 (And.intro h35 (And.intro hp0 (And.intro hp53 (And.intro hex hs)))))
  have HT := Lib.hid (And.intro hct1 htb)
  obtain ⟨rb, hrb⟩ : ∃ r, hv % 2 = r := ⟨_, rfl⟩
  have hrb2 : rb = 0 ∨ rb = 1 := by omega
  rw [hrb] at HBIT
  have HRB := Lib.hid hrb
  clear hb hg hz hn hl hm hbl h35 hp0 hp53 hex hh hr hxl htop hte htb hct1 hR hs hrb
  obtain ⟨k, hk⟩ : ∃ k, n - 1 = k := ⟨_, rfl⟩
  rw [hk] at hct hft
  have HK := Lib.hid hk
  have u9 : IntKind.u32.wrap ((n : Int) - 1) = (k : Int) := by rw [u32wi _ (by have := HN.out; omega)]; have := HN.out; omega
  have hsl1 : n ≠ 1 → ∀ W, (Instr.slice 80 (.slice (some ⟨g, 0, none⟩) n Z.length) (some (.int .u32 (k : Int))) none none).run Tryz.prog W = .ok (.slice (some ⟨g, k, none⟩) 1 (Z.length - k)) W := fun h W => by
    have := slice_from32 80 (by kernel_rfl) W g n Z.length k k rfl (by have := HN.out; omega) HB.out.2.2.2.1
    rwa [show n - k = 1 from by have := HN.out; omega] at this
  have hsl2 := fun W => slice_to32 80 (by kernel_rfl) W (some ⟨g, 0, none⟩) n Z.length 1 1 rfl (by have := HN.out; have := HB.out.2.2.2.1; omega)
  have hsl3 := fun W => slice_to32 80 (by kernel_rfl) W (some ⟨g, 0, none⟩) n Z.length 1 _ u8 (by have := HN.out; have := HB.out.2.2.2.1; omega)
  obtain ⟨RR, hRR⟩ : ∃ R, (i64s (t :: Z.drop 1)).toArray = R := ⟨_, rfl⟩
  have hcp : n ≠ 1 → ∀ ty, (Builtin.copy_ #[80, 80] ty #[.slice (some ⟨g, 0, none⟩) n Z.length, .slice (some ⟨g, k, none⟩) 1 (Z.length - k)]).run Tryz.prog ((w.setCell ⟨b, 2, none⟩ (.int .i8 0)).drew) = .ok (.int .i64 1) (((w.setCell ⟨b, 2, none⟩ (.int .i8 0)).drew).setRow g RR) := fun h ty => by
    rw [← hRR]
    exact copy_top (w := (w.setCell ⟨b, 2, none⟩ (.int .i8 0)).drew) (HB.out.2.1.set_far (Ne.symm hbg) 2 _) n k t _ ty (by have := HN.out; omega) HB.out.2.2.2.1 (cell_far (by exact (Ne.symm hbg)) hct)
  have HRR := Lib.hid hRR
  clear hk hRR
  obtain rfl : rb = 1 := HRB.out.symm.trans hrb0
  subst hrest
  clear hrb0 hrb2
  have b1 : bits .and .u64 1 1 = 1 := by decide
  have b2 : bits .and .u64 1 1 = 1 := by decide
  go_enter Tryz.func64, Tryz.ntmps64
  go_wp2_with fail
  refine (HBIT.out _ HO0.out).mono ?_
  rintro e w' ⟨rfl, rfl⟩
  go_wp2_with fail
  refine (HSTK.out _ HO0.out).mono ?_
  rintro e w' ⟨rfl, rfl⟩
  go_upto_if 80 with fail
  go_cut [8] (fun s8 wx => s8 = .int .u32 1 ∧ ∃ Z1 : List Nat, Blk wx b 82 (fP p 0 neg (.slice (some ⟨g, 0, none⟩) 1 Z.length) ex) ∧ Blk wx g 109 (i64s Z1) ∧ Z1.length = Z.length ∧ (∀ d ∈ Z1, d < B64) ∧ Z1.getD 0 0 = t ∧ Below (min b g) w wx)
  case first =>
    by_cases hn1 : n = 1
    · subst hn1
      have e3 : Hid (0 = k) := by have := HK.out; rw [Hid]; omega
      clear hsl1 hsl2 hsl3 hcp
      go_wp2
      go_meet
      obtain ⟨k1, k2, k3, k4, k5, k6⟩ := HB.out
      refine ⟨by rw [u8], Z, k1.set 2 (.int .i8 0), k2.set_far (Ne.symm hbg) 2 _, rfl, k3, by rw [show 1 - 1 = 0 from rfl] at k6; exact k6, ((HO0.out.below).mono (Nat.min_le_left _ _))⟩
    · have hn2 : (1 : Int) < (n : Int) := by have := HN.out; omega
      have hsl1' := hsl1 hn1
      have hcp' := hcp hn1
      have HN1 := Lib.hid hn1
      clear hsl1 hcp hn1
      go_wp2
      go_region
      all_goals (
        obtain ⟨k1, k2, k3, k4, k5, k6⟩ := HB.out
        have hb3 : Blk (((w.setCell ⟨b, 2, none⟩ (.int .i8 0)).drew).setRow g RR) b 82 (fP p 0 neg (.slice (some ⟨g, 0, none⟩) n Z.length) ex) := (setRow_other _ g b RR hbg).trans (k1.set 2 (.int .i8 0))
        have hg3 : Blk (((w.setCell ⟨b, 2, none⟩ (.int .i8 0)).drew).setRow g RR) g 109 (i64s (t :: Z.drop 1)) := by
          rw [← HRR.out]; exact Blk.setRow (w := (w.setCell ⟨b, 2, none⟩ (.int .i8 0)).drew) (k2.set_far (Ne.symm hbg) 2 _) _
        have hW3 : Below (min b g) w (((w.setCell ⟨b, 2, none⟩ (.int .i8 0)).drew).setRow g RR) := below_setRow ((HO0.out.below.mono (Nat.min_le_left _ _)).drew) (Nat.min_le_right _ _) RR
        have HZ3 : Hid ((t :: Z.drop 1).length = Z.length ∧ (∀ d ∈ t :: Z.drop 1, d < B64)) := by
          refine ⟨by simp; have := HN.out; omega, fun d hd => ?_⟩
          rcases List.mem_cons.1 hd with h | h
          · rw [h]; exact HT.out.2
          · exact k3 d (List.mem_of_mem_drop h)
        obtain ⟨w3, hw3⟩ : ∃ W, ((w.setCell ⟨b, 2, none⟩ (.int .i8 0)).drew).setRow g RR = W := ⟨_, rfl⟩
        rw [hw3] at hb3 hg3 hW3 ⊢
        have H3 := Lib.hid (And.intro hb3 (And.intro hg3 hW3))
        clear k1 k2 k3 k4 k5 k6 hw3 hb3 hg3 hW3 hcp'
        obtain ⟨d0, d1, d2, d3, d4, d5, d6⟩ := sev H3.out.1
        obtain ⟨g0, g1, g2, g3, g4, g5, g6⟩ := frz H3.out.1
        go_wp2
        all_goals (
          go_meet
          refine ⟨by rw [u8], t :: Z.drop 1, H3.out.1.set 5 _, H3.out.2.1.set_far (Ne.symm hbg) 5 _, HZ3.out.1, HZ3.out.2, rfl, ?_⟩
          exact H3.out.2.2.setCell (p := ⟨b, 5, none⟩) (Nat.min_le_left _ _) _))
  case rest =>
    obtain ⟨rfl, Z1, hb1, hg1, hl1, hz1, ht1, hW1⟩ := hcut
    have H1 := Lib.hid (And.intro hb1 (And.intro hg1 (And.intro hl1 (And.intro hz1 (And.intro ht1 hW1)))))
    clear c0 c1 c2 c3 c4 c5 c6 f0 f1 f2 f3 f4 f5 f6 hct hft u1 u2 u4 u5 u6 u7 u9 hsl1 hsl2 hsl3 hcp
    obtain ⟨c0, c1, c2, c3, c4, c5, c6⟩ := sev hb1
    obtain ⟨f0, f1, f2, f3, f4, f5, f6⟩ := frz hb1
    obtain ⟨t', hct, hft, htb', hte'⟩ := hg1.at64 (i := 0) (by rw [hl1]; have := HN.out; have := HB.out.2.2.2.1; omega) hz1
    obtain rfl : t' = t := hte'.out.symm.trans ht1
    have v1 : IntKind.u32.wrap (s : Int) = s := u32w s (by have := HN.out; omega)
    have v2 : (s : Int) < 64 := by have := HN.out; omega
    have o1 : bits .or .u64 0 0 = 0 := by decide
    have o2 : bits .or .u64 0 1 = 1 := by decide
    have o3 : bits .or .u64 1 0 = 1 := by decide
    have o4 : bits .or .u64 1 1 = 1 := by decide
    obtain ⟨l, hl⟩ : ∃ l, 2 ^ s = l := ⟨_, rfl⟩
    obtain ⟨q, hq⟩ : ∃ q, hv / 2 = q := ⟨_, rfl⟩
    have hl0 : 0 < l := by rw [← hl]; exact Nat.pow_pos (by decide)
    have hl64 : l < 18446744073709551616 := by
      rw [← hl]; exact Nat.lt_of_le_of_lt (Nat.pow_le_pow_right (by decide) (show s ≤ 63 by have := HN.out; omega)) (by decide)
    have v3 : IntKind.u64.wrap ((2 : Int) ^ s) = (l : Int) := by
      have e : ((2 : Int) ^ s) = ((2 ^ s : Nat) : Int) := by rw [Int.natCast_pow]; rfl
      rw [e, hl]; exact u64w l hl64
    have v4 : IntKind.u64.wrap ((l : Int) - 1) = ((l - 1 : Nat) : Int) := by
      rw [show (l : Int) - 1 = ((l - 1 : Nat) : Int) from by omega]; exact u64w _ (by omega)
    have hsp : 64 - p = s := HN.out.2.2.2.2.2
    have hT := HT.out.1
    rw [hsp, hl, hq] at hT
    have v5 : bits .andNot .u64 (t' : Int) ((l - 1 : Nat) : Int) = ((q * l : Nat) : Int) := by
      have := andNot_low (t := t') (j := s) HT.out.2 (by omega)
      rw [hl, hT.1] at this
      exact this
    have hq2 : q < 2 ^ p := by have := hT.2.2.1; rw [Nat.pow_succ] at this; omega
    have HQ : Hid (t' / l = q ∧ hv / 2 = q ∧ q < 2 ^ p ∧ 2 ^ s = l ∧ 64 - p = s ∧ 0 < l ∧ l < 18446744073709551616) := ⟨hT.1, hq, hq2, hl, hsp, hl0, hl64⟩
    obtain ⟨ql, hql⟩ : ∃ z, q * l = z := ⟨_, rfl⟩
    rw [hql] at v5
    have HQL := Lib.hid hql
    have HQLB : Hid (ql < B64) := by
      have h1 := Nat.div_mul_le_self t' l
      rw [HQ.out.1, hql] at h1
      have := HT.out.2
      simp only [Hid, B64]; omega
    have HZW : Hid (∀ x, (Z1.set 0 x).getD 0 0 = x) := fun x => by
      rw [List.getD_eq_getElem?_getD, List.getElem?_set_self (by rw [hl1]; have := HN.out; have := HB.out.2.2.2.1; omega)]; rfl
    clear hb1 hg1 hl1 hz1 hW1 htb' hte' ht1 hl hq hl0 hl64 hsp hT hq2 hql
    cases neg
    · go_wp2_with fail
      refine (makeacc_calls _ _).mono ?_
      rintro e w' ⟨rfl, rfl⟩
      have hb2 : Blk (wc.setCell ⟨b, 2, none⟩ (.int .i8 1)) b 82 (fP p 1 false (.slice (some ⟨g, 0, none⟩) 1 Z.length) ex) := H1.out.1.set 2 _
      have hg2 : Blk (wc.setCell ⟨b, 2, none⟩ (.int .i8 1)) g 109 (i64s Z1) := H1.out.2.1.set_far (Ne.symm hbg) 2 _
      have hW2 : Below (min b g) w (wc.setCell ⟨b, 2, none⟩ (.int .i8 1)) := H1.out.2.2.2.2.2.setCell (p := ⟨b, 2, none⟩) (Nat.min_le_left _ _) _
      go_wp2
      obtain ⟨w2, hw2⟩ : ∃ W, wc.setCell ⟨b, 2, none⟩ (.int .i8 1) = W := ⟨_, rfl⟩
      rw [hw2] at hb2 hg2 hW2 ⊢
      have HB2 := Lib.hid hb2
      have HG2 := Lib.hid hg2
      have HW2 := Lib.hid hW2
      clear hb2 hg2 hW2 hw2 c0 c1 c2 c3 c4 c5 c6 f0 f1 f2 f3 f4 f5 f6 hct hft
      obtain ⟨c0, c1, c2, c3, c4, c5, c6⟩ := sev HB2.out
      obtain ⟨f0, f1, f2, f3, f4, f5, f6⟩ := frz HB2.out
      obtain ⟨cv, hcv⟩ : ∃ c, (t' + l) / 18446744073709551616 = c := ⟨_, rfl⟩
      obtain ⟨u, hu⟩ : ∃ c, (t' + l) % 18446744073709551616 = c := ⟨_, rfl⟩
      have hZl : 0 < Z1.length ∧ 1 ≤ Z.length := by rw [H1.out.2.2.1]; have := HN.out; have := HB.out.2.2.2.1; omega
      have HADD := Lib.hid (fun (W : World) (hW : W.heap[g]? = w2.heap[g]?) => addvw1 g Z.length Z.length t' l Z1 W (hW.trans HG2.out) H1.out.2.2.2.1 hZl.1 H1.out.2.2.2.2.1 (by have := HQ.out; simp only [B64]; omega) hZl.2 hZl.2)
      rw [hcv, hu] at HADD
      have hcarry := carry_iff (t := t') (p := p) (q := q) (by rw [HQ.out.2.2.2.2.1, HQ.out.2.2.2.1]; exact HQ.out.1) (by have := HN.out; omega)
      rw [HQ.out.2.2.2.2.1, HQ.out.2.2.2.1] at hcarry
      have HU := Lib.hid hu
      have HZL := Lib.hid hZl
      have hu64 : u < B64 := by rw [← hu]; exact Nat.mod_lt _ (by decide)
      have HU64 := Lib.hid hu64
      have huZ : ∀ d ∈ Z1.set 0 u, d < B64 := mem_set H1.out.2.2.2.1 hu64
      have HUZ := Lib.hid huZ
      have HTB := Lib.hid HT.out.2
      clear hZl hu64 huZ
      by_cases hc : q + 1 < 2 ^ p
      · have hlt := hcarry.2 hc
        obtain rfl : cv = 0 := by rw [← hcv]; exact Nat.div_eq_of_lt hlt
        have hut : u = t' + l := by rw [← hu]; exact Nat.mod_eq_of_lt hlt
        obtain ⟨r, hr⟩ : ∃ r, (q + 1) * l = r := ⟨_, rfl⟩
        have v6 : bits .andNot .u64 (u : Int) ((l - 1 : Nat) : Int) = (r : Int) := by
          have h1 := andNot_low (t := u) (j := s) (by rw [← hu]; exact Nat.mod_lt _ (by decide)) (by have := HN.out; omega)
          have h2 := inc_word (t := t') (p := p) (q := q) (by rw [HQ.out.2.2.2.2.1, HQ.out.2.2.2.1]; exact HQ.out.1)
          rw [HQ.out.2.2.2.2.1, HQ.out.2.2.2.1] at h2
          rw [HQ.out.2.2.2.1] at h1
          rw [hut, h2, hr] at h1
          rw [hut]
          exact h1
        have HR := Lib.hid hr
        have HRB2 : Hid (r < B64) := by
          have h1 := Nat.div_mul_le_self u l
          have h2 := inc_word (t := t') (p := p) (q := q) (by rw [HQ.out.2.2.2.2.1, HQ.out.2.2.2.1]; exact HQ.out.1)
          rw [HQ.out.2.2.2.2.1, HQ.out.2.2.2.1] at h2
          rw [hut, h2, hr, ← hut] at h1
          have := HU64.out
          rw [Hid]; omega
        have HC := Lib.hid hc
        clear hcarry hlt hut hr hcv hu hc
        go_region_with (go_at_call 80; refine (HADD.out _ (by rfl)).mono ?_; rintro e w3 ⟨rfl, hg3, hO3⟩; have H3 : Hid (Blk w3 b 82 (fP p 1 false (.slice (some ⟨g, 0, none⟩) 1 Z.length) ex) ∧ Blk w3 g 109 (i64s (Z1.set 0 u)) ∧ Below (min b g) w w3) := ⟨(hO3.block b hbg).trans HB2.out, hg3, Below.trans (by repeat (first | exact HW2.out | (with_reducible apply below_drewN) | (with_reducible apply Below.drew))) (hO3.below.mono (Nat.min_le_right _ _))⟩; clear hg3 hO3; obtain ⟨y0, y1, y2, y3, y4, y5, y6⟩ := sev H3.out.1; obtain ⟨g0, g1, g2, g3, g4, g5, g6⟩ := frz H3.out.1; obtain ⟨uu, gct, gft, _, gte⟩ := H3.out.2.1.at64 (i := 0) (by rw [List.length_set]; exact HZL.out.1) HUZ.out; obtain rfl : uu = u := gte.out.symm.trans (HZW.out u); clear gte)
        all_goals (
          go_wp2
          go_end0
          obtain ⟨k1, k2, k3, k4, k5, k6⟩ := H1.out
          have hq0 := HQ.out
          have hgg := H3.out.2.1.set64 0 r _ rfl
          rw [List.set_set] at hgg
          refine ⟨rfl, RCut.intro (mo := true) (acc := _) (W := r) (X := ex) (Z' := Z1.set 0 r) (by rw [moreH0, HRB.out]; rfl) (by unfold accM; rw [if_neg (by rw [HRB.out]; simp), moreH0, HRB.out]; rfl) (H3.out.1.set_far hbg 0 _) (hgg) (HZW.out _) (by rw [List.length_set]; exact k3) (mem_set k4 HRB2.out) (.inr ⟨by rw [hq0.2.1]; exact HC.out, rfl, by rw [hq0.2.1, hq0.2.2.2.2.1, hq0.2.2.2.1]; exact HR.out.symm⟩) (H3.out.2.2.setCell (p := ⟨g, 0, none⟩) (Nat.min_le_right _ _) _)⟩)
      · have hge : 18446744073709551616 ≤ t' + l := by
          rcases Nat.lt_or_ge (t' + l) 18446744073709551616 with h | h
          · exact absurd (hcarry.1 h) hc
          · exact h
        obtain rfl : cv = 1 := by rw [← hcv]; have := HT.out.2; have := HQ.out; omega
        have hq1 : q + 1 = 2 ^ p := by have := HQ.out; omega
        obtain ⟨u2, hu2⟩ : ∃ z, u / 2 = z := ⟨_, rfl⟩
        have hcw := carry_word (u := u2) s (by have := HN.out; omega) HQ.out.2.2.2.1 HT.out.2 hge (by rw [hu, hu2])
        have v6 : bits .or .u64 (u2 : Int) 9223372036854775808 = ((u2 + 9223372036854775808 : Nat) : Int) := by
          rw [show (9223372036854775808 : Int) = ((9223372036854775808 : Nat) : Int) from rfl, u64_or_nat _ _ (by omega) (by decide), or_add_low (r := 63) hcw.1 (by decide)]
        obtain ⟨u3, hu3⟩ : ∃ z, u2 + 9223372036854775808 = z := ⟨_, rfl⟩
        rw [hu3] at v6 hcw
        have v7 : bits .andNot .u64 (u3 : Int) ((l - 1 : Nat) : Int) = 9223372036854775808 := by
          have h1 := andNot_low (t := u3) (j := s) (by omega) (by have := HN.out; omega)
          rw [HQ.out.2.2.2.1, hcw.2] at h1
          exact h1
        have HC := Lib.hid hq1
        have hexx : ¬ (2147483647 : Int) ≤ ex := by have := HN.out; omega
        have hwx : IntKind.i32.wrap (ex + 1) = ex + 1 := by have := HN.out; simp [IntKind.wrap, IntKind.bits, IntKind.signed]; omega
        have HU2 := Lib.hid hu2
        have hu2b : u2 < B64 := by have := hcw.1; simp only [B64]; omega
        have HU2Z : Hid (∀ d ∈ Z1.set 0 u2, d < B64) := mem_set H1.out.2.2.2.1 hu2b
        clear hcarry hge hc hcv hu hcw hu3 hq1 hu2 hu2b
        go_region_with (go_at_call 80; refine (HADD.out _ (by rfl)).mono ?_; rintro e w3 ⟨rfl, hg3, hO3⟩; have H3 : Hid (Blk w3 b 82 (fP p 1 false (.slice (some ⟨g, 0, none⟩) 1 Z.length) ex) ∧ Blk w3 g 109 (i64s (Z1.set 0 u)) ∧ Below (min b g) w w3) := ⟨(hO3.block b hbg).trans HB2.out, hg3, Below.trans (by repeat (first | exact HW2.out | (with_reducible apply below_drewN) | (with_reducible apply Below.drew))) (hO3.below.mono (Nat.min_le_right _ _))⟩; clear hg3 hO3; obtain ⟨y0, y1, y2, y3, y4, y5, y6⟩ := sev H3.out.1; obtain ⟨g0, g1, g2, g3, g4, g5, g6⟩ := frz H3.out.1)
        all_goals (
          have hb4 : Blk (w3.setCell ⟨b, 6, none⟩ (.int .i32 (ex + 1))) b 82 (fP p 1 false (.slice (some ⟨g, 0, none⟩) 1 Z.length) (ex + 1)) := H3.out.1.set 6 _
          have hg4 : Blk (w3.setCell ⟨b, 6, none⟩ (.int .i32 (ex + 1))) g 109 (i64s (Z1.set 0 u)) := H3.out.2.1.set_far (Ne.symm hbg) 6 _
          have hW4 : Below (min b g) w (w3.setCell ⟨b, 6, none⟩ (.int .i32 (ex + 1))) := H3.out.2.2.setCell (p := ⟨b, 6, none⟩) (Nat.min_le_left _ _) _
          go_wp2
          obtain ⟨w4, hw4⟩ : ∃ W, w3.setCell ⟨b, 6, none⟩ (.int .i32 (ex + 1)) = W := ⟨_, rfl⟩
          rw [hw4] at hb4 hg4 hW4 ⊢
          have H4 := Lib.hid (And.intro hb4 (And.intro hg4 hW4))
          clear hb4 hg4 hW4 hw4 y0 y1 y2 y3 y4 y5 y6 g0 g1 g2 g3 g4 g5 g6 c0 c1 c2 c3 c4 c5 c6 f0 f1 f2 f3 f4 f5 f6
          obtain ⟨c0, c1, c2, c3, c4, c5, c6⟩ := sev H4.out.1
          obtain ⟨f0, f1, f2, f3, f4, f5, f6⟩ := frz H4.out.1
          have HRS := Lib.hid (fun (W : World) (hW : W.heap[g]? = w4.heap[g]?) => rsh_self1 g Z.length Z.length u (Z1.set 0 u) W (hW.trans H4.out.2.1) HUZ.out (by rw [List.length_set]; exact HZL.out.1) (HZW.out u))
          rw [HU2.out, List.set_set] at HRS
          go_region_with (go_at_call 60; refine (HRS.out _ (by rfl)).mono ?_; rintro e w5 ⟨vv, rfl, hg5, hO5⟩; have H5 : Hid (Blk w5 b 82 (fP p 1 false (.slice (some ⟨g, 0, none⟩) 1 Z.length) (ex + 1)) ∧ Blk w5 g 109 (i64s (Z1.set 0 u2)) ∧ Below (min b g) w w5) := ⟨(hO5.block b hbg).trans H4.out.1, hg5, Below.trans (by repeat (first | exact H4.out.2.2 | (with_reducible apply below_drewN) | (with_reducible apply Below.drew))) (hO5.below.mono (Nat.min_le_right _ _))⟩; clear hg5 hO5; obtain ⟨y0, y1, y2, y3, y4, y5, y6⟩ := sev H5.out.1; obtain ⟨g0, g1, g2, g3, g4, g5, g6⟩ := frz H5.out.1; obtain ⟨uu, gct, gft, _, gte⟩ := H5.out.2.1.at64 (i := 0) (by rw [List.length_set]; exact HZL.out.1) HU2Z.out; obtain rfl : uu = u2 := gte.out.symm.trans (HZW.out u2); clear gte)
          all_goals (
            go_wp2
            go_end0
            obtain ⟨k1, k2, k3, k4, k5, k6⟩ := H1.out
            have hq0 := HQ.out
            have hgg := (H5.out.2.1.set64 0 u3 _ rfl).set64 0 9223372036854775808 _ rfl
            rw [List.set_set, List.set_set] at hgg
            refine ⟨rfl, RCut.intro (mo := true) (acc := _) (W := 9223372036854775808) (X := ex + 1) (Z' := Z1.set 0 9223372036854775808) (by rw [moreH0, HRB.out]; rfl) (by unfold accM; rw [if_neg (by rw [HRB.out]; simp), moreH0, HRB.out]; rfl) ((H5.out.1.set_far hbg 0 _).set_far hbg 0 _) (hgg) (HZW.out _) (by rw [List.length_set]; exact k3) (mem_set k4 (by decide)) (.inl ⟨by rw [hq0.2.1]; exact HC.out, rfl, rfl⟩) ((H5.out.2.2.setCell (p := ⟨g, 0, none⟩) (Nat.min_le_right _ _) _).setCell (p := ⟨g, 0, none⟩) (Nat.min_le_right _ _) _)⟩))

    · go_wp2_with fail
      refine (makeacc_calls _ _).mono ?_
      rintro e w' ⟨rfl, rfl⟩
      have hb2 : Blk (wc.setCell ⟨b, 2, none⟩ (.int .i8 (-1))) b 82 (fP p (-1) true (.slice (some ⟨g, 0, none⟩) 1 Z.length) ex) := H1.out.1.set 2 _
      have hg2 : Blk (wc.setCell ⟨b, 2, none⟩ (.int .i8 (-1))) g 109 (i64s Z1) := H1.out.2.1.set_far (Ne.symm hbg) 2 _
      have hW2 : Below (min b g) w (wc.setCell ⟨b, 2, none⟩ (.int .i8 (-1))) := H1.out.2.2.2.2.2.setCell (p := ⟨b, 2, none⟩) (Nat.min_le_left _ _) _
      go_wp2
      obtain ⟨w2, hw2⟩ : ∃ W, wc.setCell ⟨b, 2, none⟩ (.int .i8 (-1)) = W := ⟨_, rfl⟩
      rw [hw2] at hb2 hg2 hW2 ⊢
      have HB2 := Lib.hid hb2
      have HG2 := Lib.hid hg2
      have HW2 := Lib.hid hW2
      clear hb2 hg2 hW2 hw2 c0 c1 c2 c3 c4 c5 c6 f0 f1 f2 f3 f4 f5 f6 hct hft
      obtain ⟨c0, c1, c2, c3, c4, c5, c6⟩ := sev HB2.out
      obtain ⟨f0, f1, f2, f3, f4, f5, f6⟩ := frz HB2.out
      obtain ⟨cv, hcv⟩ : ∃ c, (t' + l) / 18446744073709551616 = c := ⟨_, rfl⟩
      obtain ⟨u, hu⟩ : ∃ c, (t' + l) % 18446744073709551616 = c := ⟨_, rfl⟩
      have hZl : 0 < Z1.length ∧ 1 ≤ Z.length := by rw [H1.out.2.2.1]; have := HN.out; have := HB.out.2.2.2.1; omega
      have HADD := Lib.hid (fun (W : World) (hW : W.heap[g]? = w2.heap[g]?) => addvw1 g Z.length Z.length t' l Z1 W (hW.trans HG2.out) H1.out.2.2.2.1 hZl.1 H1.out.2.2.2.2.1 (by have := HQ.out; simp only [B64]; omega) hZl.2 hZl.2)
      rw [hcv, hu] at HADD
      have hcarry := carry_iff (t := t') (p := p) (q := q) (by rw [HQ.out.2.2.2.2.1, HQ.out.2.2.2.1]; exact HQ.out.1) (by have := HN.out; omega)
      rw [HQ.out.2.2.2.2.1, HQ.out.2.2.2.1] at hcarry
      have HU := Lib.hid hu
      have HZL := Lib.hid hZl
      have hu64 : u < B64 := by rw [← hu]; exact Nat.mod_lt _ (by decide)
      have HU64 := Lib.hid hu64
      have huZ : ∀ d ∈ Z1.set 0 u, d < B64 := mem_set H1.out.2.2.2.1 hu64
      have HUZ := Lib.hid huZ
      have HTB := Lib.hid HT.out.2
      clear hZl hu64 huZ
      by_cases hc : q + 1 < 2 ^ p
      · have hlt := hcarry.2 hc
        obtain rfl : cv = 0 := by rw [← hcv]; exact Nat.div_eq_of_lt hlt
        have hut : u = t' + l := by rw [← hu]; exact Nat.mod_eq_of_lt hlt
        obtain ⟨r, hr⟩ : ∃ r, (q + 1) * l = r := ⟨_, rfl⟩
        have v6 : bits .andNot .u64 (u : Int) ((l - 1 : Nat) : Int) = (r : Int) := by
          have h1 := andNot_low (t := u) (j := s) (by rw [← hu]; exact Nat.mod_lt _ (by decide)) (by have := HN.out; omega)
          have h2 := inc_word (t := t') (p := p) (q := q) (by rw [HQ.out.2.2.2.2.1, HQ.out.2.2.2.1]; exact HQ.out.1)
          rw [HQ.out.2.2.2.2.1, HQ.out.2.2.2.1] at h2
          rw [HQ.out.2.2.2.1] at h1
          rw [hut, h2, hr] at h1
          rw [hut]
          exact h1
        have HR := Lib.hid hr
        have HRB2 : Hid (r < B64) := by
          have h1 := Nat.div_mul_le_self u l
          have h2 := inc_word (t := t') (p := p) (q := q) (by rw [HQ.out.2.2.2.2.1, HQ.out.2.2.2.1]; exact HQ.out.1)
          rw [HQ.out.2.2.2.2.1, HQ.out.2.2.2.1] at h2
          rw [hut, h2, hr, ← hut] at h1
          have := HU64.out
          rw [Hid]; omega
        have HC := Lib.hid hc
        clear hcarry hlt hut hr hcv hu hc
        go_region_with (go_at_call 80; refine (HADD.out _ (by rfl)).mono ?_; rintro e w3 ⟨rfl, hg3, hO3⟩; have H3 : Hid (Blk w3 b 82 (fP p (-1) true (.slice (some ⟨g, 0, none⟩) 1 Z.length) ex) ∧ Blk w3 g 109 (i64s (Z1.set 0 u)) ∧ Below (min b g) w w3) := ⟨(hO3.block b hbg).trans HB2.out, hg3, Below.trans (by repeat (first | exact HW2.out | (with_reducible apply below_drewN) | (with_reducible apply Below.drew))) (hO3.below.mono (Nat.min_le_right _ _))⟩; clear hg3 hO3; obtain ⟨y0, y1, y2, y3, y4, y5, y6⟩ := sev H3.out.1; obtain ⟨g0, g1, g2, g3, g4, g5, g6⟩ := frz H3.out.1; obtain ⟨uu, gct, gft, _, gte⟩ := H3.out.2.1.at64 (i := 0) (by rw [List.length_set]; exact HZL.out.1) HUZ.out; obtain rfl : uu = u := gte.out.symm.trans (HZW.out u); clear gte)
        all_goals (
          go_wp2
          go_end0
          obtain ⟨k1, k2, k3, k4, k5, k6⟩ := H1.out
          have hq0 := HQ.out
          have hgg := H3.out.2.1.set64 0 r _ rfl
          rw [List.set_set] at hgg
          refine ⟨rfl, RCut.intro (mo := true) (acc := _) (W := r) (X := ex) (Z' := Z1.set 0 r) (by rw [moreH0, HRB.out]; rfl) (by unfold accM; rw [if_neg (by rw [HRB.out]; simp), moreH0, HRB.out]; rfl) (H3.out.1.set_far hbg 0 _) (hgg) (HZW.out _) (by rw [List.length_set]; exact k3) (mem_set k4 HRB2.out) (.inr ⟨by rw [hq0.2.1]; exact HC.out, rfl, by rw [hq0.2.1, hq0.2.2.2.2.1, hq0.2.2.2.1]; exact HR.out.symm⟩) (H3.out.2.2.setCell (p := ⟨g, 0, none⟩) (Nat.min_le_right _ _) _)⟩)
      · have hge : 18446744073709551616 ≤ t' + l := by
          rcases Nat.lt_or_ge (t' + l) 18446744073709551616 with h | h
          · exact absurd (hcarry.1 h) hc
          · exact h
        obtain rfl : cv = 1 := by rw [← hcv]; have := HT.out.2; have := HQ.out; omega
        have hq1 : q + 1 = 2 ^ p := by have := HQ.out; omega
        obtain ⟨u2, hu2⟩ : ∃ z, u / 2 = z := ⟨_, rfl⟩
        have hcw := carry_word (u := u2) s (by have := HN.out; omega) HQ.out.2.2.2.1 HT.out.2 hge (by rw [hu, hu2])
        have v6 : bits .or .u64 (u2 : Int) 9223372036854775808 = ((u2 + 9223372036854775808 : Nat) : Int) := by
          rw [show (9223372036854775808 : Int) = ((9223372036854775808 : Nat) : Int) from rfl, u64_or_nat _ _ (by omega) (by decide), or_add_low (r := 63) hcw.1 (by decide)]
        obtain ⟨u3, hu3⟩ : ∃ z, u2 + 9223372036854775808 = z := ⟨_, rfl⟩
        rw [hu3] at v6 hcw
        have v7 : bits .andNot .u64 (u3 : Int) ((l - 1 : Nat) : Int) = 9223372036854775808 := by
          have h1 := andNot_low (t := u3) (j := s) (by omega) (by have := HN.out; omega)
          rw [HQ.out.2.2.2.1, hcw.2] at h1
          exact h1
        have HC := Lib.hid hq1
        have hexx : ¬ (2147483647 : Int) ≤ ex := by have := HN.out; omega
        have hwx : IntKind.i32.wrap (ex + 1) = ex + 1 := by have := HN.out; simp [IntKind.wrap, IntKind.bits, IntKind.signed]; omega
        have HU2 := Lib.hid hu2
        have hu2b : u2 < B64 := by have := hcw.1; simp only [B64]; omega
        have HU2Z : Hid (∀ d ∈ Z1.set 0 u2, d < B64) := mem_set H1.out.2.2.2.1 hu2b
        clear hcarry hge hc hcv hu hcw hu3 hq1 hu2 hu2b
        go_region_with (go_at_call 80; refine (HADD.out _ (by rfl)).mono ?_; rintro e w3 ⟨rfl, hg3, hO3⟩; have H3 : Hid (Blk w3 b 82 (fP p (-1) true (.slice (some ⟨g, 0, none⟩) 1 Z.length) ex) ∧ Blk w3 g 109 (i64s (Z1.set 0 u)) ∧ Below (min b g) w w3) := ⟨(hO3.block b hbg).trans HB2.out, hg3, Below.trans (by repeat (first | exact HW2.out | (with_reducible apply below_drewN) | (with_reducible apply Below.drew))) (hO3.below.mono (Nat.min_le_right _ _))⟩; clear hg3 hO3; obtain ⟨y0, y1, y2, y3, y4, y5, y6⟩ := sev H3.out.1; obtain ⟨g0, g1, g2, g3, g4, g5, g6⟩ := frz H3.out.1)
        all_goals (
          have hb4 : Blk (w3.setCell ⟨b, 6, none⟩ (.int .i32 (ex + 1))) b 82 (fP p (-1) true (.slice (some ⟨g, 0, none⟩) 1 Z.length) (ex + 1)) := H3.out.1.set 6 _
          have hg4 : Blk (w3.setCell ⟨b, 6, none⟩ (.int .i32 (ex + 1))) g 109 (i64s (Z1.set 0 u)) := H3.out.2.1.set_far (Ne.symm hbg) 6 _
          have hW4 : Below (min b g) w (w3.setCell ⟨b, 6, none⟩ (.int .i32 (ex + 1))) := H3.out.2.2.setCell (p := ⟨b, 6, none⟩) (Nat.min_le_left _ _) _
          go_wp2
          obtain ⟨w4, hw4⟩ : ∃ W, w3.setCell ⟨b, 6, none⟩ (.int .i32 (ex + 1)) = W := ⟨_, rfl⟩
          rw [hw4] at hb4 hg4 hW4 ⊢
          have H4 := Lib.hid (And.intro hb4 (And.intro hg4 hW4))
          clear hb4 hg4 hW4 hw4 y0 y1 y2 y3 y4 y5 y6 g0 g1 g2 g3 g4 g5 g6 c0 c1 c2 c3 c4 c5 c6 f0 f1 f2 f3 f4 f5 f6
          obtain ⟨c0, c1, c2, c3, c4, c5, c6⟩ := sev H4.out.1
          obtain ⟨f0, f1, f2, f3, f4, f5, f6⟩ := frz H4.out.1
          have HRS := Lib.hid (fun (W : World) (hW : W.heap[g]? = w4.heap[g]?) => rsh_self1 g Z.length Z.length u (Z1.set 0 u) W (hW.trans H4.out.2.1) HUZ.out (by rw [List.length_set]; exact HZL.out.1) (HZW.out u))
          rw [HU2.out, List.set_set] at HRS
          go_region_with (go_at_call 60; refine (HRS.out _ (by rfl)).mono ?_; rintro e w5 ⟨vv, rfl, hg5, hO5⟩; have H5 : Hid (Blk w5 b 82 (fP p (-1) true (.slice (some ⟨g, 0, none⟩) 1 Z.length) (ex + 1)) ∧ Blk w5 g 109 (i64s (Z1.set 0 u2)) ∧ Below (min b g) w w5) := ⟨(hO5.block b hbg).trans H4.out.1, hg5, Below.trans (by repeat (first | exact H4.out.2.2 | (with_reducible apply below_drewN) | (with_reducible apply Below.drew))) (hO5.below.mono (Nat.min_le_right _ _))⟩; clear hg5 hO5; obtain ⟨y0, y1, y2, y3, y4, y5, y6⟩ := sev H5.out.1; obtain ⟨g0, g1, g2, g3, g4, g5, g6⟩ := frz H5.out.1; obtain ⟨uu, gct, gft, _, gte⟩ := H5.out.2.1.at64 (i := 0) (by rw [List.length_set]; exact HZL.out.1) HU2Z.out; obtain rfl : uu = u2 := gte.out.symm.trans (HZW.out u2); clear gte)
          all_goals (
            go_wp2
            go_end0
            obtain ⟨k1, k2, k3, k4, k5, k6⟩ := H1.out
            have hq0 := HQ.out
            have hgg := (H5.out.2.1.set64 0 u3 _ rfl).set64 0 9223372036854775808 _ rfl
            rw [List.set_set, List.set_set] at hgg
            refine ⟨rfl, RCut.intro (mo := true) (acc := _) (W := 9223372036854775808) (X := ex + 1) (Z' := Z1.set 0 9223372036854775808) (by rw [moreH0, HRB.out]; rfl) (by unfold accM; rw [if_neg (by rw [HRB.out]; simp), moreH0, HRB.out]; rfl) ((H5.out.1.set_far hbg 0 _).set_far hbg 0 _) (hgg) (HZW.out _) (by rw [List.length_set]; exact k3) (mem_set k4 (by decide)) (.inl ⟨by rw [hq0.2.1]; exact HC.out, rfl, rfl⟩) ((H5.out.2.2.setCell (p := ⟨g, 0, none⟩) (Nat.min_le_right _ _) _).setCell (p := ⟨g, 0, none⟩) (Nat.min_le_right _ _) _)⟩))

end Go.Proofs.YtikdhkmcdmnadaaGreatFmt

namespace Go.Proofs.YtikdhkmcdmnadaaGreatFmt
open Go.RowKit

theorem round_cut (b g n p hv m : Nat) (Z : List Nat) (acc ex : Int) (neg rest : Bool) (w : World) (hb : Blk w b 82 (fP p acc neg (.slice (some ⟨g, 0, none⟩) n Z.length) ex)) (hg : Blk w g 109 (i64s Z)) (hz : ∀ d ∈ Z, d < B64) (hn : n ≤ Z.length) (hl : Z.length ≤ 1099511627776)
    (hm : val B64 (Z.take n) = m) (hbl : bl m = 64 * n) (h0 : 0 < n) (h35 : n ≤ 35) (hp0 : 0 < p) (hp53 : p ≤ 53) (hex : -20000 ≤ ex ∧ ex ≤ 20000) (hh : hv = m / 2 ^ (64 * n - p - 1)) (hr : rest = restB (m % 2 ^ (64 * n - p - 1))) :
    Calls Tryz.prog 64 #[.pointer (some ⟨b, 0, none⟩), .int .u64 0] w fun e w' => e = .returned (.tuple #[]) ∧ RCut b g p hv neg rest ex Z.length w w' := by
  rcases Nat.mod_two_eq_zero_or_one hv with h | h <;> cases hrest : rest
  · exact hrest ▸ round_c00 b g n p hv m Z acc ex neg rest w hb hg hz hn hl hm hbl h0 h35 hp0 hp53 hex hh hr h hrest
  · exact hrest ▸ round_c01 b g n p hv m Z acc ex neg rest w hb hg hz hn hl hm hbl h0 h35 hp0 hp53 hex hh hr h hrest
  · exact hrest ▸ round_c10 b g n p hv m Z acc ex neg rest w hb hg hz hn hl hm hbl h0 h35 hp0 hp53 hex hh hr h hrest
  · exact hrest ▸ round_c11 b g n p hv m Z acc ex neg rest w hb hg hz hn hl hm hbl h0 h35 hp0 hp53 hex hh hr h hrest
end Go.Proofs.YtikdhkmcdmnadaaGreatFmt
