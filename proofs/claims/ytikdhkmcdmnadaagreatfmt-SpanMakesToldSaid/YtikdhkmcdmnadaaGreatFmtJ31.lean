/- Walks and plain laws of this seat's functions, part 31: G23 G24 G25 G26 G27a G27. -/
import Derived.Test.YtikdhkmcdmnadaaGreatFmtJ21
import Derived.Test.YtikdhkmcdmnadaaGreatFmtJ29
import Derived.Test.YtikdhkmcdmnadaaGreatFmtJ30
set_option linter.unusedVariables false
set_option linter.unusedSimpArgs false
namespace Go.Proofs.YtikdhkmcdmnadaaGreatFmt
open Go.RowKit
attribute [local go_sem ↓] Go.wp_at_zero Go.wp_at_succ

/-! ### Set, of one precision -/
set_option exponentiation.threshold 3000 in
set_option maxHeartbeats 4000000 in
set_option maxRecDepth 100000 in
theorem set_same (b bx n m B : Nat) (ax ex : Int) (neg : Bool) (v : Value) (w : World) (hb : Blk w b 82 (fC 2300 0 0 false (.slice none 0 0) 0)) (hx : Blk w bx 82 (fC 2300 ax 1 neg v ex)) (hO : OwnN w B m v) (hne : b ≠ bx)
    (hbl : bl m = 64 * n) (h0 : 0 < n) (h35 : n ≤ 35) (hex : -20000 ≤ ex ∧ ex ≤ 20000) :
    Calls Tryz.prog 77 #[.pointer (some ⟨b, 0, none⟩), .pointer (some ⟨bx, 0, none⟩)] w fun e w' => e = .returned (.pointer (some ⟨b, 0, none⟩)) ∧ (∃ v' B', Blk w' b 82 (fC 2300 0 1 neg v' ex) ∧ OwnN w' B' m v') ∧ Below b w w' := by
  have hm0 : m ≠ 0 := by intro h; subst h; rw [bl_zero] at hbl; omega
  obtain ⟨A, n', c, rfl, _⟩ := hO.shape
  have hw := hO.words hm0
  obtain rfl : n' = n := by omega
  obtain ⟨x0, x1, x2, x3, x4, x5, x6⟩ := sev hx
  obtain ⟨z0, z1, z2, z3, z4, z5, z6⟩ := sev hb
  obtain ⟨f0, f1, f2, f3, f4, f5, f6⟩ := frz hb
  have hbx : ¬ bx = b := fun h => hne h.symm
  have hneq1 := neq_flt_other (w.setCell ⟨b, 2, none⟩ (.int .i8 0)) (a := ⟨b, 0, none⟩) (b := ⟨bx, 0, none⟩) (by intro h; injection h with h; exact hne h) (hb.set 2 (.int .i8 0)) (hx.set_far hbx 2 (.int .i8 0))
  have HB := Lib.hid (And.intro hb (And.intro hx (And.intro hO hm0)))
  have hL : m < B64 ^ 36 := by
    rw [pow64]; exact Nat.lt_of_lt_of_le (bl_lt m) (Nat.pow_le_pow_right (by decide) (by omega))
  have HL := Lib.hid hL
  have HN := Lib.hid (And.intro hbl (And.intro h0 (And.intro h35 hex)))
  clear hb hx hO hbl h0 h35 hex hw hm0 hL
  go_enter Tryz.func77, Tryz.ntmps77
  go_wp2
  obtain ⟨k1, k2, k3, k4⟩ := HB.out
  have hb1 : Blk ((((w.setCell ⟨b, 2, none⟩ (.int .i8 0)).setCell ⟨b, 3, none⟩ (.int .u8 1)).setCell ⟨b, 4, none⟩ (.bool neg)).setCell ⟨b, 6, none⟩ (.int .i32 ex)) b 82 (fC 2300 0 1 neg (.slice none 0 0) ex) := (((k1.set 2 _).set 3 _).set 4 _).set 6 _
  have hx1 : Blk ((((w.setCell ⟨b, 2, none⟩ (.int .i8 0)).setCell ⟨b, 3, none⟩ (.int .u8 1)).setCell ⟨b, 4, none⟩ (.bool neg)).setCell ⟨b, 6, none⟩ (.int .i32 ex)) bx 82 (fC 2300 ax 1 neg (.slice A n' c) ex) := (((k2.set_far hbx 2 _).set_far hbx 3 _).set_far hbx 4 _).set_far hbx 6 _
  have hO1 : OwnN ((((w.setCell ⟨b, 2, none⟩ (.int .i8 0)).setCell ⟨b, 3, none⟩ (.int .u8 1)).setCell ⟨b, 4, none⟩ (.bool neg)).setCell ⟨b, 6, none⟩ (.int .i32 ex)) B m (.slice A n' c) := (((k3.setF k1 2 _).setF (k1.set 2 _) 3 _).setF ((k1.set 2 _).set 3 _) 4 _).setF (((k1.set 2 _).set 3 _).set 4 _) 6 _
  have hW1 : Below b w ((((w.setCell ⟨b, 2, none⟩ (.int .i8 0)).setCell ⟨b, 3, none⟩ (.int .u8 1)).setCell ⟨b, 4, none⟩ (.bool neg)).setCell ⟨b, 6, none⟩ (.int .i32 ex)) := ((((Below.refl b w).setCell (p := ⟨b, 2, none⟩) (Nat.le_refl _) _).setCell (p := ⟨b, 3, none⟩) (Nat.le_refl _) _).setCell (p := ⟨b, 4, none⟩) (Nat.le_refl _) _).setCell (p := ⟨b, 6, none⟩) (Nat.le_refl _) _
  obtain ⟨w1, hw1⟩ : ∃ W, (((w.setCell ⟨b, 2, none⟩ (.int .i8 0)).setCell ⟨b, 3, none⟩ (.int .u8 1)).setCell ⟨b, 4, none⟩ (.bool neg)).setCell ⟨b, 6, none⟩ (.int .i32 ex) = W := ⟨_, rfl⟩
  rw [hw1] at hb1 hx1 hO1 hW1 ⊢
  have H1 := Lib.hid (And.intro hb1 (And.intro hx1 (And.intro hO1 hW1)))
  have HS := Lib.hid (fun (W : World) (hW : Below w1.heap.size w1 W) => nset_calls (.slice none 0 0) (.slice A n' c) 0 m W W.heap.size B (.inl ⟨rfl, rfl⟩) (Nat.le_refl _) (H1.out.2.2.1.keep hW) 36 HL.out (by decide))
  clear hw1 hb1 hx1 hO1 hW1 k1 k2 k3 k4 x0 x1 x2 x3 x4 x5 x6 z0 z1 z2 z3 z4 z5 z6 f0 f1 f2 f3 f4 f5 f6 hneq1
  obtain ⟨x0, x1, x2, x3, x4, x5, x6⟩ := sev H1.out.2.1
  obtain ⟨z0, z1, z2, z3, z4, z5, z6⟩ := sev H1.out.1
  obtain ⟨f0, f1, f2, f3, f4, f5, f6⟩ := frz H1.out.1
  go_region_with (go_at_call 93; refine (HS.out _ (by repeat (first | exact Below.refl _ _ | (with_reducible apply below_drewN) | (with_reducible apply Below.drew)))).mono ?_; rintro e w2 ⟨v, rfl, hO2, hW2⟩; have hw2 := hO2; have HO22 := Lib.hid hO2; obtain ⟨g, Z, n2, rfl, hgB, hgb, hz, hn2, hl2, ht2, hv2⟩ := hO2.resolve_left (fun h => HB.out.2.2.2 h.2); have hwd := OwnN.words hw2 HB.out.2.2.2; have hb12 : Below w1.heap.size w1 w2 := Below.trans (by repeat (first | exact Below.refl _ _ | (with_reducible apply below_drewN) | (with_reducible apply Below.drew))) hW2; have H2 : Hid (Blk w2 b 82 (fC 2300 0 1 neg (.slice none 0 0) ex) ∧ Blk w2 bx 82 (fC 2300 ax 1 neg (.slice A n' c) ex) ∧ Blk w2 g 109 (i64s Z) ∧ (∀ d ∈ Z, d < B64) ∧ n2 ≤ Z.length ∧ Z.length ≤ 1099511627776 ∧ val B64 (Z.take n2) = m ∧ n2 = n' ∧ b < g ∧ Below b w w2) := ⟨H1.out.1.below' hb12, H1.out.2.1.below' hb12, hgb, hz, hn2, hl2, hv2, by have := HN.out.1; omega, Nat.lt_of_lt_of_le H1.out.1.lt hgB, H1.out.2.2.2.trans (hb12.mono (Nat.le_of_lt H1.out.1.lt))⟩; clear hw2 hgB hgb hz hn2 hl2 ht2 hv2 hwd hb12 hW2 hO2; obtain ⟨y0, y1, y2, y3, y4, y5, y6⟩ := sev H2.out.1; obtain ⟨g0, g1, g2, g3, g4, g5, g6⟩ := frz H2.out.1)
  all_goals (
    obtain rfl : n2 = n' := H2.out.2.2.2.2.2.2.2.1
    have hb3 : Blk (w2.setCell ⟨b, 5, none⟩ (.slice (some ⟨g, 0, none⟩) n2 Z.length)) b 82 (fC 2300 0 1 neg (.slice (some ⟨g, 0, none⟩) n2 Z.length) ex) := H2.out.1.set 5 _
    have hx3 : Blk (w2.setCell ⟨b, 5, none⟩ (.slice (some ⟨g, 0, none⟩) n2 Z.length)) bx 82 (fC 2300 ax 1 neg (.slice A n2 c) ex) := H2.out.2.1.set_far hbx 5 _
    have hg3 : Blk (w2.setCell ⟨b, 5, none⟩ (.slice (some ⟨g, 0, none⟩) n2 Z.length)) g 109 (i64s Z) := H2.out.2.2.1.set_far (Nat.ne_of_gt H2.out.2.2.2.2.2.2.2.2.1) 5 _
    have hW3 : Below b w (w2.setCell ⟨b, 5, none⟩ (.slice (some ⟨g, 0, none⟩) n2 Z.length)) := H2.out.2.2.2.2.2.2.2.2.2.setCell (p := ⟨b, 5, none⟩) (Nat.le_refl _) _
    have HO3 : OwnN (w2.setCell ⟨b, 5, none⟩ (.slice (some ⟨g, 0, none⟩) n2 Z.length)) w1.heap.size m (.slice (some ⟨g, 0, none⟩) n2 Z.length) := OwnN.setF HO22.out H2.out.1 5 _
    obtain ⟨w3, hw3⟩ : ∃ W, w2.setCell ⟨b, 5, none⟩ (.slice (some ⟨g, 0, none⟩) n2 Z.length) = W := ⟨_, rfl⟩
    rw [hw3] at hb3 hx3 hg3 hW3 HO3 ⊢
    have H3 := Lib.hid (And.intro hb3 (And.intro hx3 (And.intro hg3 hW3)))
    clear hb3 hx3 hg3 hW3 hw3 x0 x1 x2 x3 x4 x5 x6 z0 z1 z2 z3 z4 z5 z6 f0 f1 f2 f3 f4 f5 f6 y0 y1 y2 y3 y4 y5 y6 g0 g1 g2 g3 g4 g5 g6
    obtain ⟨x0, x1, x2, x3, x4, x5, x6⟩ := sev H3.out.2.1
    obtain ⟨z0, z1, z2, z3, z4, z5, z6⟩ := sev H3.out.1
    have HOO : Hid (OwnN w3 w1.heap.size m (.slice (some ⟨g, 0, none⟩) n2 Z.length)) := HO3
    clear HO3
    go_wp2
    go_region
    all_goals (
      go_wp2
      go_ret
      refine ⟨rfl, ⟨_, w1.heap.size, H3.out.1, HOO.out⟩, ?_⟩
      repeat (first | exact H3.out.2.2.2 | (with_reducible apply below_drewN) | (with_reducible apply Below.drew))))
end Go.Proofs.YtikdhkmcdmnadaaGreatFmt

namespace Go.Proofs.YtikdhkmcdmnadaaGreatFmt
open Go.RowKit
attribute [local go_sem ↓] Go.wp_at_zero Go.wp_at_succ

/-! ### Float64, told -/
theorem accR_bd (neg rest : Bool) (h : Nat) (e : Int) : -2 ≤ accR neg h rest e ∧ accR neg h rest e ≤ 2 := by
  unfold accR; split
  · split <;> omega
  · split
    · omega
    · split <;> omega
theorem f64_calls (b K N : Nat) (X : Int) (w : World) (hx : FVal w K N b X) (hN : N ≤ 35) (hK : 1074 < K) :
    ∃ (neg : Bool) (r : Nat) (c : Int), r ≤ INFR ∧ (-2 ≤ c ∧ c ≤ 2) ∧ (∀ d : Int, 0 ≤ d → d ≤ 2 → sideS d neg r c = rndS d K X) ∧
      Calls Tryz.prog 56 #[.pointer (some ⟨b, 0, none⟩)] w fun e w' => e = fRetA (wordR neg r) c ∧ Below w.heap.size w w' := by
  obtain ⟨acc, form, neg, v, ex, hb, hv⟩ := hx
  rcases hv with ⟨rfl, rfl⟩ | ⟨rfl, B, m, n, hO, hbl, h0, hn, hz, rfl, hex⟩
  · refine ⟨neg, 0, 0, by decide, by decide, fun d h1 h2 => ?_, (f64_zero b acc ex neg v w hb).mono ?_⟩
    · rw [rndS_zero d K hK]
      unfold sideS
      simp only [Int.lt_irrefl, and_false, if_false]
      rw [if_neg (by decide), sgnR_zero]
    · rintro e w' ⟨rfl, q, rfl⟩
      exact ⟨rfl, below_drewN (Below.refl _ _) q⟩
  · have hm0 : m ≠ 0 := by intro h; subst h; rw [bl_zero] at hbl; omega
    obtain ⟨k0, hk0⟩ : ∃ k, (ex - ((64 * n : Nat) : Int) + K).toNat = k := ⟨_, rfl⟩
    have hk1 : (k0 : Int) = ex - ((64 * n : Nat) : Int) + K := by omega
    rw [hk0]
    obtain ⟨s, hs⟩ : ∃ s, shD K (m * 2 ^ k0) = s := ⟨_, rfl⟩
    have spec : ∀ {h : Nat} {rest : Bool} {e : Int}, m * 2 ^ k0 / 2 ^ (s - 1) = h → restB (m * 2 ^ k0 % 2 ^ (s - 1)) = rest → (s : Int) - K = e → ∀ d : Int, 0 ≤ d → d ≤ 2 → sideS d neg (nearR h rest e) (accR neg h rest e) = rndS d K (sg neg (m * 2 ^ k0)) := by
      intro h rest e h1 h2 h3 d hd0 hd2
      have := (rnd_spec (d := d) (neg := neg) hm0 hK (k := s) hs.symm h1.symm h2.symm).1
      rw [this, h3]
      exact side_spec ⟨hd0, hd2⟩ neg rest h e
    have nle : ∀ {h : Nat} {rest : Bool} {e : Int}, nearR h rest e ≤ INFR := Nat.min_le_right _ _
    rcases Int.lt_or_le ex (-1021) with hlo | hhi
    · rcases Int.lt_trichotomy ex (-1074) with h | h | h
      · obtain ⟨a1, a2, a3⟩ := cut_low hbl h0 hk1 hK (by omega) hs.symm
        refine ⟨neg, nearR 0 true (-1074), accR neg 0 true (-1074), nle, accR_bd _ _ _ _, spec a1 a2 a3, (f64_under b acc ex neg v w hb (by omega)).mono ?_⟩
        rintro e w' ⟨rfl, q, rfl⟩
        refine ⟨?_, below_drewN (Below.refl _ _) q⟩
        cases neg <;> rfl
      · obtain ⟨a1, a2, a3⟩ := cut_num (p := 0) hbl h0 hk1 hK (by omega) hs.symm
        rw [cut_edge hbl h0] at a1
        subst h
        obtain ⟨rest, hrest⟩ : ∃ r, restB (m % 2 ^ (64 * n - 1)) = r := ⟨_, rfl⟩
        rw [show 64 * n - 0 - 1 = 64 * n - 1 from rfl, hrest] at a2
        have a3' : (s : Int) - K = -1074 := by omega
        refine ⟨neg, nearR 1 rest (-1074), accR neg 1 rest (-1074), nle, accR_bd _ _ _ _, spec a1 a2 a3', (f64_edge b n m B acc neg rest v w hb hO hbl h0 (by omega) hrest.symm).mono ?_⟩
        rintro e w' ⟨rfl, q, rfl⟩
        refine ⟨?_, below_drewN (Below.refl _ _) q⟩
        cases neg <;> cases rest <;> rfl
      · obtain ⟨p, hp⟩ : ∃ p : Nat, (p : Int) = ex + 1074 := ⟨(ex + 1074).toNat, by omega⟩
        obtain ⟨a1, a2, a3⟩ := cut_num (p := p) hbl h0 hk1 hK (by omega) hs.symm
        exact ⟨neg, _, _, nle, accR_bd _ _ _ _, spec a1 a2 a3, f64_lo b n m B _ acc ex neg _ v w hb hO hbl h0 (by omega) (by omega) p hp (by omega) rfl rfl⟩
    · obtain ⟨a1, a2, a3⟩ := cut_num (p := 53) hbl h0 hk1 hK (by omega) hs.symm
      exact ⟨neg, _, _, nle, accR_bd _ _ _ _, spec a1 a2 a3, f64_hi b n m B _ acc ex neg _ v w hb hO hbl h0 (by omega) (by omega) rfl rfl⟩
set_option maxHeartbeats 1000000 in
set_option maxRecDepth 100000 in
theorem ftold_calls (d : Int) (b K N : Nat) (X : Int) (w : World) (hx : FVal w K N b X) (hN : N ≤ 35) (hK : 1074 < K) (hd : 0 ≤ d ∧ d ≤ 2) :
    Calls Tryz.prog 45 #[.int .i64 d, .pointer (some ⟨b, 0, none⟩)] w fun e w' => e = fRet2 (rndS d K X) ∧ Below w.heap.size w w' := by
  obtain ⟨neg, r, c, h1, h2, h3, h4⟩ := f64_calls b K N X w hx hN hK
  rw [← h3 d hd.1 hd.2]
  have HF := Lib.hid h4
  have HS := Lib.hid (fun W => side_calls d neg r c hd h1 h2 W)
  have hwc : IntKind.i64.wrap c = c := IntWalk.i64_in _ (by omega)
  obtain ⟨u, hu⟩ : ∃ u, wordR neg r = u := ⟨_, rfl⟩
  obtain ⟨o, ho⟩ : ∃ o, sideS d neg r c = o := ⟨_, rfl⟩
  rw [hu] at HF HS
  rw [ho] at HS ⊢
  clear h1 h2 h3 h4 hx hu ho hd hN hK
  go_enter Tryz.func45, Tryz.ntmps45
  go_wp2_with fail
  refine HF.out.mono ?_
  rintro e w' ⟨rfl, hW⟩
  have HW := Lib.hid hW
  clear hW
  unfold fRetA
  go_wp2_with fail
  refine (HS.out _).mono ?_
  rintro e w2 ⟨rfl, rfl⟩
  unfold fRet2
  go_wp2
  go_ret2
  exact ⟨rfl, HW.out⟩
/-! ### Add -/
theorem FVal.raise {w : World} {K J N b : Nat} {X : Int} (h : FVal w K N b X) : FVal w (K + J) N b (X * ((2 ^ J : Nat) : Int)) := by
  obtain ⟨acc, form, neg, v, ex, hb, hv⟩ := h
  refine ⟨acc, form, neg, v, ex, hb, ?_⟩
  rcases hv with ⟨rfl, rfl⟩ | ⟨rfl, B, m, n, hO, hbl, h0, hn, hz, rfl, hex⟩
  · exact .inl ⟨rfl, Int.zero_mul _⟩
  · refine .inr ⟨rfl, B, m, n, hO, hbl, h0, hn, by omega, ?_, hex⟩
    rw [sg_pow, Nat.mul_assoc, ← Nat.pow_add]
    congr 3
    omega
end Go.Proofs.YtikdhkmcdmnadaaGreatFmt

namespace Go.Proofs.YtikdhkmcdmnadaaGreatFmt
open Go.RowKit
attribute [local go_sem ↓] Go.wp_at_zero Go.wp_at_succ

/-! ### round.Add, Sub, Mul -/
set_option exponentiation.threshold 3000 in
theorem rv_bd {r : Nat} (h : r < INFR) : rv r < 2 ^ 2098 := by
  have h1 : rv r < rv INFR := rv_lt h
  rw [rv_inf] at h1
  have e : 9007199254740992 * P2045 = 2 ^ 2098 := by
    unfold P2045
    rw [show (9007199254740992 : Nat) = 2 ^ 53 from by decide, ← Nat.pow_add]
  omega
theorem fv_bd {u : Nat} (hu : u < 18446744073709551616) (hf : fin u = true) : (fv u).natAbs < 2 ^ 2098 := by
  obtain ⟨h1, h2⟩ := word_of hu hf
  rw [h1, fv_word h2, sg_abs]
  exact rv_bd h2
/-- what Add, Sub, Mul tell (values in parts of 2^-2148) -/
def exS (c : Int) (u v : Nat) : Int := if c = 1 then (fv u + fv v) * ((2 ^ 1074 : Nat) : Int) else if c = 2 then (fv u - fv v) * ((2 ^ 1074 : Nat) : Int) else fv u * fv v
def askS (c d : Int) (u v : Nat) : Option Nat := if pairB d u v then rndS d 2148 (exS c u v) else none
theorem pairB_true {d : Int} {u v : Nat} (h : pairB d u v = true) : fin u = true ∧ fin v = true ∧ 0 ≤ d ∧ d ≤ 2 := by
  unfold pairB at h; simp at h; exact ⟨h.1.1, h.1.2, h.2.1, h.2.2⟩
theorem ask_false {c d : Int} {u v : Nat} (h : pairB d u v = false) : askS c d u v = none := by unfold askS; rw [h, if_neg (by decide)]
theorem ask_true {c d : Int} {u v : Nat} (h : pairB d u v = true) : askS c d u v = rndS d 2148 (exS c u v) := by unfold askS; rw [if_pos h]
theorem exS_1 (u v : Nat) : exS 1 u v = (fv u + fv v) * ((2 ^ 1074 : Nat) : Int) := by unfold exS; rw [if_pos rfl]
theorem exS_2 (u v : Nat) : exS 2 u v = (fv u - fv v) * ((2 ^ 1074 : Nat) : Int) := by unfold exS; rw [if_neg (by decide), if_pos rfl]
theorem exS_3 (u v : Nat) : exS 3 u v = fv u * fv v := by unfold exS; rw [if_neg (by decide), if_neg (by decide)]
theorem pow_int (a b : Nat) : ((2 ^ a : Nat) : Int) * ((2 ^ b : Nat) : Int) = ((2 ^ (a + b) : Nat) : Int) := by rw [← Int.natCast_mul, ← Nat.pow_add]
set_option exponentiation.threshold 3000 in
theorem add_val (d : Int) (x y : Int) : rndS d 1204 ((x * ((2 ^ 66 : Nat) : Int) + y * ((2 ^ 66 : Nat) : Int)) * ((2 ^ 64 : Nat) : Int)) = rndS d 2148 ((x + y) * ((2 ^ 1074 : Nat) : Int)) := by
  have h := rndS_scale d (K := 1204) (by decide) 944 ((x * ((2 ^ 66 : Nat) : Int) + y * ((2 ^ 66 : Nat) : Int)) * ((2 ^ 64 : Nat) : Int))
  rw [← h, ← Int.add_mul, Int.mul_assoc, Int.mul_assoc, pow_int 64 944, pow_int 66]
set_option exponentiation.threshold 3000 in
theorem mul_val (d : Int) (x y : Int) : rndS d 2344 (x * ((2 ^ 66 : Nat) : Int) * (y * ((2 ^ 66 : Nat) : Int)) * ((2 ^ 64 : Nat) : Int)) = rndS d 2148 (x * y) := by
  have h := rndS_scale d (K := 2148) (by decide) 196 (x * y)
  rw [← h]
  refine congrArg (rndS d 2344) ?_
  rw [Int.mul_assoc x, Int.mul_left_comm _ y, ← Int.mul_assoc x y, Int.mul_assoc (x * y), pow_int 66 66, pow_int 132 64]
set_option exponentiation.threshold 3000 in
theorem scale_bd {x : Int} (hx : x.natAbs < 2 ^ 2098) : (x * ((2 ^ 66 : Nat) : Int)).natAbs < 2 ^ 2164 := by
  rw [Int.natAbs_mul, Int.natAbs_natCast]
  have h := Nat.mul_lt_mul_of_pos_right hx (Nat.pow_pos (n := 66) (a := 2) (by decide))
  rwa [← Nat.pow_add] at h
theorem exact66 (u : Nat) (hu : u < 18446744073709551616) (hf : fin u = true) (w : World) :
    Calls Tryz.prog 48 #[.float .f64 u] w fun e w' => e = .returned (.pointer (some ⟨w.heap.size, 0, none⟩)) ∧ FVal w' 1140 1 w.heap.size (fv u * ((2 ^ 66 : Nat) : Int)) ∧ Below w.heap.size w w' := exact_calls u 1140 hu hf (by decide) w
end Go.Proofs.YtikdhkmcdmnadaaGreatFmt

namespace Go.Proofs.YtikdhkmcdmnadaaGreatFmt
open Go.RowKit
attribute [local go_sem ↓] Go.wp_at_zero Go.wp_at_succ

/-! ### round.Mul, Sub -/
set_option maxHeartbeats 4000000 in
set_option maxRecDepth 100000 in
theorem rmul_calls (d : Int) (u v : Nat) (hu : u < 18446744073709551616) (hv : v < 18446744073709551616) (w : World) :
    Calls Tryz.prog 27 #[.int .i64 d, .float .f64 u, .float .f64 v] w fun e w' => e = fRet2 (askS 3 d u v) ∧ Below w.heap.size w w' := by
  have HP := Lib.hid (fun W => pair_calls d u v hu hv W)
  obtain ⟨b, hb⟩ : ∃ b, pairB d u v = b := ⟨_, rfl⟩
  rw [hb] at HP
  cases b
  · have HR : Hid (askS 3 d u v = none) := ask_false hb
    clear hb hu hv
    go_enter Tryz.func27, Tryz.ntmps27
    go_wp2_with fail
    refine (HP.out _).mono ?_
    rintro e w' ⟨rfl, rfl⟩
    go_wp2
    go_ret2
    exact ⟨ret2_none HR.out, Below.refl _ _⟩
  · obtain ⟨fu, fv', hd1, hd2⟩ := pairB_true hb
    have hbu := fv_bd hu fu
    have hbv := fv_bd hv fv'
    have HEU := Lib.hid (fun W => exact66 u hu fu W)
    have HEV := Lib.hid (fun W => exact66 v hv fv' W)
    have HSP := Lib.hid (fun W => setprec_calls w.heap.size W)
    have HAD := Lib.hid (fun W b1 b2 (hz : Blk W w.heap.size 82 (fC 2300 0 0 false (.slice none 0 0) 0)) (hx : FVal W 1140 1 b1 (fv u * ((2 ^ 66 : Nat) : Int))) (hy : FVal W 1140 1 b2 (fv v * ((2 ^ 66 : Nat) : Int))) (h1 : b1 ≠ w.heap.size) (h2 : b2 ≠ w.heap.size) (h3 : b1 ≠ b2) => mulf_calls w.heap.size b1 b2 1140 1140 2164 _ _ W hz hx hy h3 h1 h2 (by decide) (by decide) (scale_bd hbu) (scale_bd hbv) (by decide))
    have HT := Lib.hid (fun W X (hx : FVal W 2344 2 w.heap.size X) => ftold_calls d w.heap.size 2344 2 X W hx (by decide) (by decide) ⟨hd1, hd2⟩)
    have HVAL : Hid (rndS d 2344 (fv u * ((2 ^ 66 : Nat) : Int) * (fv v * ((2 ^ 66 : Nat) : Int)) * ((2 ^ 64 : Nat) : Int)) = askS 3 d u v) := by
      rw [Hid, ask_true hb, exS_3]; exact mul_val d _ _
    have HN := Lib.hid (float_new w)
    have HW := Lib.hid (below_new (Below.refl w.heap.size w) (.cells #[.int .u32 0, .int .u8 0, .int .i8 0, .int .u8 0, .bool false, .slice none 0 0, .int .i32 0] 82))
    obtain ⟨o, ho⟩ : ∃ o, askS 3 d u v = o := ⟨_, rfl⟩
    rw [ho] at HVAL ⊢
    clear hb hu hv fu fv' hd1 hd2 hbu hbv ho
    go_enter Tryz.func27, Tryz.ntmps27
    go_wp2_with fail
    refine (HP.out _).mono ?_
    rintro e w' ⟨rfl, rfl⟩
    go_wp2_with fail
    refine (HSP.out _ HN.out).mono ?_
    rintro e w1 ⟨rfl, hz1, hW1⟩
    have H1 := Lib.hid (And.intro hz1 (HW.out.trans hW1))
    clear hz1 hW1
    go_wp2_with fail
    refine (HEU.out _).mono ?_
    rintro e w2 ⟨rfl, hx2, hW2⟩
    have H2 := Lib.hid (And.intro hx2 hW2)
    clear hx2 hW2
    go_wp2_with fail
    refine (HEV.out _).mono ?_
    rintro e w3 ⟨rfl, hy3, hW3⟩
    have H3 := Lib.hid (And.intro hy3 hW3)
    clear hy3 hW3
    go_wp2_with fail
    have hs1 : w.heap.size < w1.heap.size := H1.out.1.lt
    have hs2 : w1.heap.size < w2.heap.size := H2.out.1.lt
    refine (HAD.out w3 w1.heap.size w2.heap.size ((H1.out.1.below' H2.out.2).below' H3.out.2) (H2.out.1.keep H3.out.2) H3.out.1 (by omega) (by omega) (by omega)).mono ?_
    rintro e w4 ⟨rfl, hf, hW4⟩
    have H4 : Hid (FVal w4 2344 2 w.heap.size (fv u * ((2 ^ 66 : Nat) : Int) * (fv v * ((2 ^ 66 : Nat) : Int)) * ((2 ^ 64 : Nat) : Int)) ∧ Below w.heap.size w w4) := ⟨hf, ((H1.out.2.trans (H2.out.2.mono (Nat.le_of_lt hs1))).trans (H3.out.2.mono (by omega))).trans hW4⟩
    clear hf hW4
    go_wp2_with fail
    have HT4 := Lib.hid (HT.out w4 _ H4.out.1)
    rw [HVAL.out] at HT4
    refine HT4.out.mono ?_
    rintro e w5 ⟨rfl, hW5⟩
    have H5 := Lib.hid (H4.out.2.trans (hW5.mono H4.out.2.size))
    clear hW5 hs1 hs2
    unfold fRet2
    go_wp2
    go_ret2
    exact ⟨rfl, H5.out⟩
theorem fv_uneg {v : Nat} (hv : v < 18446744073709551616) (hf : fin v = true) : fv (uneg v) = -fv v ∧ fin (uneg v) = true ∧ uneg v < 18446744073709551616 := by
  obtain ⟨h1, h2⟩ := word_of hv hf
  obtain ⟨n, hn⟩ : ∃ n, fneg v = n := ⟨_, rfl⟩
  obtain ⟨r, hr⟩ : ∃ r, uabs v = r := ⟨_, rfl⟩
  rw [hn, hr] at h1
  rw [hr] at h2
  subst h1
  have hi : INFR < 9223372036854775808 := by decide
  rw [neg_word n h2, fv_word h2, fv_word h2]
  exact ⟨by cases n <;> simp [sg], word_fin h2, word_lt (by omega)⟩
theorem uneg_lt {v : Nat} (hv : v < 18446744073709551616) : uneg v < 18446744073709551616 := by
  unfold uneg; exact Nat.xor_lt_two_pow (n := 64) hv (by decide)
theorem uneg_uneg (v : Nat) : uneg (uneg v) = v := by unfold uneg; rw [Nat.xor_assoc, Nat.xor_self, Nat.xor_zero]
theorem fin_uneg {v : Nat} (hv : v < 18446744073709551616) : fin (uneg v) = fin v := by
  rcases h : fin v with _ | _
  · rcases h2 : fin (uneg v) with _ | _
    · rfl
    · have := (fv_uneg (uneg_lt hv) h2).2.1
      rw [uneg_uneg, h] at this; exact this.symm ▸ rfl
  · exact (fv_uneg hv h).2.1
theorem ask_sub (d : Int) (u v : Nat) (hv : v < 18446744073709551616) : askS 1 d u (uneg v) = askS 2 d u v := by
  have hp : pairB d u (uneg v) = pairB d u v := by unfold pairB; rw [fin_uneg hv]
  rcases h : pairB d u v with _ | _
  · rw [ask_false h, ask_false (hp.trans h)]
  · rw [ask_true h, ask_true (hp.trans h), exS_1, exS_2, (fv_uneg hv (pairB_true h).2.1).1]; rfl
end Go.Proofs.YtikdhkmcdmnadaaGreatFmt

namespace Go.Proofs.YtikdhkmcdmnadaaGreatFmt
open Go.RowKit
attribute [local go_sem ↓] Go.wp_at_zero Go.wp_at_succ

/-! ### round.Div -/
theorem run_fquo (ty : Nat) {u v s : Nat} (h : Ieee.double.div u v = some s) (W : World) : (binOp .quo ty (.float .f64 u) (.float .f64 v)).run Tryz.prog W = .ok (.float .f64 s) W := by
  have h' : FloatKind.f64.format.div u v = some s := h
  simp [binOp, Op.floatArith, h']
def divS (d : Int) (u v : Nat) : Option Nat := if pairB d u v && decide (uabs v ≠ 0) then (if uabs u = 0 then some 0 else qS d (fneg u != fneg v) (rv (uabs u)) (rv (uabs v))) else none
theorem sign_four (a b : Bool) (x y : Nat) (c : Int) (hc : 0 < c) : (if b then -(Int.sign ((sg a x - sg a y) * c)) else Int.sign ((sg a x - sg a y) * c)) = Int.sign (sg (a != b) x - sg (a != b) y) := by
  rw [Int.sign_mul, Int.sign_eq_one_of_pos hc, Int.mul_one]
  cases b
  · rw [if_neg (by decide)]; cases a <;> rfl
  · rw [if_pos rfl, ← Int.sign_neg]
    refine congrArg Int.sign ?_
    cases a
    · show -((x : Int) - (y : Int)) = -(x : Int) - -(y : Int); omega
    · show -(-(x : Int) - -(y : Int)) = (x : Int) - (y : Int); omega
theorem div_alg (a b : Bool) (Q B A : Nat) (c1 c2 c3 c4 : Int) (P : Nat) (h1 : c1 * c1 * c2 = c4) (h2 : (P : Int) * c4 = c3) :
    sg (a != b) Q * c1 * (sg b B * c1) * c2 - sg a A * c3 = (sg a (Q * B) - sg a (A * P)) * c4 := by
  have e1 : sg (a != b) Q * c1 * (sg b B * c1) * c2 = sg a (Q * B) * c4 := by
    have h3 : sg (a != b) Q * sg b B = sg a (Q * B) := by rw [sg_times]; cases a <;> cases b <;> rfl
    rw [← h3, ← h1]
    simp only [Int.mul_assoc, Int.mul_left_comm]
  have e2 : sg a A * c3 = sg a (A * P) * c4 := by rw [← h2, ← sg_pow, Int.mul_assoc]
  rw [e1, e2, Int.sub_mul]
theorem pow_pos_int (n : Nat) : (0 : Int) < ((2 ^ n : Nat) : Int) := Int.natCast_pos.2 (Nat.pow_pos (by decide))
set_option exponentiation.threshold 3000 in
theorem c_pows : ((2 ^ 66 : Nat) : Int) * ((2 ^ 66 : Nat) : Int) * ((2 ^ 64 : Nat) : Int) = ((2 ^ 196 : Nat) : Int) ∧ ((2 ^ 1074 : Nat) : Int) * ((2 ^ 196 : Nat) : Int) = ((2 ^ 1270 : Nat) : Int) := by
  constructor
  · rw [pow_int 66 66, pow_int]
  · rw [pow_int]
theorem div_cmp {a b : Bool} {r s rq : Nat} (hA : rv r ≠ 0) (hB : rv s ≠ 0) (hlt : r0R (hQ (rv r) (rv s)) (restQ (rv r) (rv s)) (eQ (rv r) (rv s)) < INFR) (hq : rq = nearR (hQ (rv r) (rv s)) (restQ (rv r) (rv s)) (eQ (rv r) (rv s))) :
    (if b then -(Int.sign (sg (a != b) (rv rq) * ((2 ^ 66 : Nat) : Int) * (sg b (rv s) * ((2 ^ 66 : Nat) : Int)) * ((2 ^ 64 : Nat) : Int) - sg a (rv r) * ((2 ^ 1270 : Nat) : Int))) else Int.sign (sg (a != b) (rv rq) * ((2 ^ 66 : Nat) : Int) * (sg b (rv s) * ((2 ^ 66 : Nat) : Int)) * ((2 ^ 64 : Nat) : Int) - sg a (rv r) * ((2 ^ 1270 : Nat) : Int)))
      = accR (a != b) (hQ (rv r) (rv s)) (restQ (rv r) (rv s)) (eQ (rv r) (rv s)) := by
  have h := div_acc hA hB (a != b) hlt
  rw [← hq] at h
  rw [h]
  obtain ⟨p1, p2⟩ := c_pows
  have p3 := pow_pos_int 196
  generalize ((2 ^ 66 : Nat) : Int) = c1 at *
  generalize ((2 ^ 64 : Nat) : Int) = c2 at *
  generalize ((2 ^ 1270 : Nat) : Int) = c3 at *
  generalize ((2 ^ 196 : Nat) : Int) = c4 at *
  generalize (2 ^ 1074 : Nat) = P at *
  rw [div_alg a b _ _ _ c1 c2 c3 c4 P p1 p2]
  exact sign_four a b _ _ c4 p3
theorem order_zero {b : Bool} {s : Nat} (hs : s ≤ INFR) : Ieee.double.order (wordR b s) 0 = some (compare (sval b s) 0) := by
  have := order_word (a := b) (b := false) (r := s) (s := 0) hs (by decide)
  exact this
theorem eq_zero_f {b : Bool} {s : Nat} (hs : s ≤ INFR) : (FloatKind.f64.format.order (wordR b s) 0 == some .eq) = decide (s = 0) := by
  show (Ieee.double.order (wordR b s) 0 == some .eq) = _
  rw [order_zero hs]
  by_cases h : s = 0
  · subst h; cases b <;> rfl
  · rw [decide_eq_false h]
    cases b
    · rw [Int.compare_eq_gt.2 (by simp only [sval, Bool.false_eq_true, if_false]; omega)]; rfl
    · rw [Int.compare_eq_lt.2 (by simp only [sval, if_true]; omega)]; rfl
theorem lt_zero_f {b : Bool} {s : Nat} (hs : s ≤ INFR) (h0 : s ≠ 0) : (FloatKind.f64.format.order (wordR b s) 0 == some .lt) = b := by
  show (Ieee.double.order (wordR b s) 0 == some .lt) = _
  rw [order_zero hs]
  cases b
  · rw [Int.compare_eq_gt.2 (by simp only [sval, Bool.false_eq_true, if_false]; omega)]; rfl
  · rw [Int.compare_eq_lt.2 (by simp only [sval, if_true]; omega)]; rfl
end Go.Proofs.YtikdhkmcdmnadaaGreatFmt

namespace Go.Proofs.YtikdhkmcdmnadaaGreatFmt
open Go.RowKit
attribute [local go_sem ↓] Go.wp_at_zero Go.wp_at_succ

set_option exponentiation.threshold 3000 in
set_option maxHeartbeats 4000000 in
set_option maxRecDepth 100000 in
/-- a quotient that is a number -/
theorem rdiv_fin (d : Int) (u v rq : Nat) (n b : Bool) (hu : u < 18446744073709551616) (hv : v < 18446744073709551616) (hp : pairB d u v = true) (hv0 : (FloatKind.f64.format.order v 0 == some .eq) = false) (hvl : (FloatKind.f64.format.order v 0 == some .lt) = b) (hq : Ieee.double.div u v = some (wordR n rq)) (hrq : rq < INFR) (c0 : Int)
    (hc0 : Int.sign (sg n (rv rq) * ((2 ^ 66 : Nat) : Int) * (fv v * ((2 ^ 66 : Nat) : Int)) * ((2 ^ 64 : Nat) : Int) - fv u * ((2 ^ 1270 : Nat) : Int)) = c0) (w : World) :
    Calls Tryz.prog 28 #[.int .i64 d, .float .f64 u, .float .f64 v] w fun e w' => e = fRet2 (sideS d n rq (if b then -c0 else c0)) ∧ Below w.heap.size w w' := by
  obtain ⟨fu, fv', hd1, hd2⟩ := pairB_true hp
  have hi : INFR < 9223372036854775808 := by decide
  have HP := Lib.hid (fun W => pair_calls d u v hu hv W)
  rw [hp] at HP
  have hquo := run_fquo 22 hq
  have HI := Lib.hid (fun W => isinf_word n rq (Nat.le_of_lt hrq) W)
  rw [decide_eq_false (by omega : ¬ rq = INFR)] at HI
  have hqb : wordR n rq < 18446744073709551616 := word_lt (by omega)
  have hqv := fv_word (neg := n) hrq
  have HEQ := Lib.hid (fun W => exact66 (wordR n rq) hqb (word_fin hrq) W)
  rw [hqv] at HEQ
  have HEV := Lib.hid (fun W => exact66 v hv fv' W)
  have HEU := Lib.hid (fun W => exact_calls u 2344 hu fu (by decide) W)
  have hbq : (sg n (rv rq) * ((2 ^ 66 : Nat) : Int)).natAbs < 2 ^ 2164 := scale_bd (by rw [sg_abs]; exact rv_bd hrq)
  have HSP := Lib.hid (fun W => setprec_calls w.heap.size W)
  have HMU := Lib.hid (fun W b1 b2 (hz : Blk W w.heap.size 82 (fC 2300 0 0 false (.slice none 0 0) 0)) (hx : FVal W 1140 1 b1 (sg n (rv rq) * ((2 ^ 66 : Nat) : Int))) (hy : FVal W 1140 1 b2 (fv v * ((2 ^ 66 : Nat) : Int))) (h1 : b1 ≠ w.heap.size) (h2 : b2 ≠ w.heap.size) (h3 : b1 ≠ b2) => mulf_calls w.heap.size b1 b2 1140 1140 2164 _ _ W hz hx hy h3 h1 h2 (by decide) (by decide) hbq (scale_bd (fv_bd hv fv')) (by decide))
  have HC := Lib.hid (fun W b2 (hx : FVal W 2344 2 w.heap.size (sg n (rv rq) * ((2 ^ 66 : Nat) : Int) * (fv v * ((2 ^ 66 : Nat) : Int)) * ((2 ^ 64 : Nat) : Int))) (hy : FVal W 2344 1 b2 (fv u * ((2 ^ 1270 : Nat) : Int))) => cmpf_calls w.heap.size b2 2344 2 1 _ _ W hx hy)
  rw [hc0] at HC
  have hcb : -1 ≤ c0 ∧ c0 ≤ 1 := by
    rw [← hc0]
    rcases Int.lt_trichotomy (sg n (rv rq) * ((2 ^ 66 : Nat) : Int) * (fv v * ((2 ^ 66 : Nat) : Int)) * ((2 ^ 64 : Nat) : Int) - fv u * ((2 ^ 1270 : Nat) : Int)) 0 with h | h | h
    · rw [Int.sign_eq_neg_one_of_neg h]; decide
    · rw [h]; decide
    · rw [Int.sign_eq_one_of_pos h]; decide
  have HS := Lib.hid (fun c W (hc : -2 ≤ c ∧ c ≤ 2) => side_calls d n rq c ⟨hd1, hd2⟩ (Nat.le_of_lt hrq) hc W)
  have HSA := Lib.hid (fun W => HS.out c0 W (by omega))
  have HSB := Lib.hid (fun W => HS.out (-c0) W (by omega))
  have hwn : IntKind.i64.wrap (-c0) = -c0 := IntWalk.i64_in _ (by omega)
  have HN := Lib.hid (float_new w)
  have HW := Lib.hid (below_new (Below.refl w.heap.size w) (.cells #[.int .u32 0, .int .u8 0, .int .i8 0, .int .u8 0, .bool false, .slice none 0 0, .int .i32 0] 82))
  obtain ⟨q, hqq⟩ : ∃ q, wordR n rq = q := ⟨_, rfl⟩
  rw [hqq] at hquo HI HEQ HSA HSB
  obtain ⟨XP, hXP⟩ : ∃ x, sg n (rv rq) * ((2 ^ 66 : Nat) : Int) = x := ⟨_, rfl⟩
  rw [hXP] at HEQ HMU HC
  obtain ⟨XV, hXV⟩ : ∃ x, fv v * ((2 ^ 66 : Nat) : Int) = x := ⟨_, rfl⟩
  rw [hXV] at HEV HMU HC
  obtain ⟨o1, ho1⟩ : ∃ o, sideS d n rq c0 = o := ⟨_, rfl⟩
  obtain ⟨o2, ho2⟩ : ∃ o, sideS d n rq (-c0) = o := ⟨_, rfl⟩
  rw [ho1] at HSA
  rw [ho2] at HSB
  have HOO : Hid (sideS d n rq (if b then -c0 else c0) = if b then o2 else o1) := by cases b; exact ho1; exact ho2
  rw [HOO.out]
  clear hu hv hp hq hrq hi hqb hqv hbq hcb hc0 fu fv' hd1 hd2 hqq hXP hXV ho1 ho2 HS HOO
  cases b
  · go_enter Tryz.func28, Tryz.ntmps28
    go_wp2_with fail
    refine (HP.out _).mono ?_
    rintro e w' ⟨rfl, rfl⟩
    go_wp2_with fail
    refine (HI.out _).mono ?_
    rintro e w' ⟨rfl, rfl⟩
    go_wp2_with fail
    refine (HSP.out _ HN.out).mono ?_
    rintro e w1 ⟨rfl, hz1, hW1⟩
    have H1 := Lib.hid (And.intro hz1 (HW.out.trans hW1))
    clear hz1 hW1
    go_wp2_with fail
    refine (HEQ.out _).mono ?_
    rintro e w2 ⟨rfl, hx2, hW2⟩
    have H2 := Lib.hid (And.intro hx2 hW2)
    clear hx2 hW2
    go_wp2_with fail
    refine (HEV.out _).mono ?_
    rintro e w3 ⟨rfl, hy3, hW3⟩
    have H3 := Lib.hid (And.intro hy3 hW3)
    clear hy3 hW3
    go_wp2_with fail
    have hs1 : w.heap.size < w1.heap.size := H1.out.1.lt
    have hs2 : w1.heap.size < w2.heap.size := H2.out.1.lt
    refine (HMU.out w3 w1.heap.size w2.heap.size ((H1.out.1.below' H2.out.2).below' H3.out.2) (H2.out.1.keep H3.out.2) H3.out.1 (by omega) (by omega) (by omega)).mono ?_
    rintro e w4 ⟨rfl, hf, hW4⟩
    have H4 : Hid (FVal w4 2344 2 w.heap.size (XP * XV * ((2 ^ 64 : Nat) : Int)) ∧ Below w.heap.size w w4) := ⟨hf, ((H1.out.2.trans (H2.out.2.mono (Nat.le_of_lt hs1))).trans (H3.out.2.mono (by omega))).trans hW4⟩
    clear hf hW4 hs1 hs2
    go_wp2_with fail
    refine (HEU.out _).mono ?_
    rintro e w5 ⟨rfl, hx5, hW5⟩
    have H5 := Lib.hid (And.intro hx5 hW5)
    clear hx5 hW5
    go_wp2_with fail
    refine (HC.out w5 w4.heap.size (H4.out.1.keep H5.out.2) H5.out.1).mono ?_
    rintro e w6 ⟨rfl, q6, rfl⟩
    go_wp2_with fail
    refine (HSA.out _).mono ?_
    rintro e w' ⟨rfl, rfl⟩
    unfold fRet2
    go_wp2
    go_ret2
    exact ⟨rfl, below_drewN (H4.out.2.trans (H5.out.2.mono H4.out.2.size)) q6⟩
  · go_enter Tryz.func28, Tryz.ntmps28
    go_wp2_with fail
    refine (HP.out _).mono ?_
    rintro e w' ⟨rfl, rfl⟩
    go_wp2_with fail
    refine (HI.out _).mono ?_
    rintro e w' ⟨rfl, rfl⟩
    go_wp2_with fail
    refine (HSP.out _ HN.out).mono ?_
    rintro e w1 ⟨rfl, hz1, hW1⟩
    have H1 := Lib.hid (And.intro hz1 (HW.out.trans hW1))
    clear hz1 hW1
    go_wp2_with fail
    refine (HEQ.out _).mono ?_
    rintro e w2 ⟨rfl, hx2, hW2⟩
    have H2 := Lib.hid (And.intro hx2 hW2)
    clear hx2 hW2
    go_wp2_with fail
    refine (HEV.out _).mono ?_
    rintro e w3 ⟨rfl, hy3, hW3⟩
    have H3 := Lib.hid (And.intro hy3 hW3)
    clear hy3 hW3
    go_wp2_with fail
    have hs1 : w.heap.size < w1.heap.size := H1.out.1.lt
    have hs2 : w1.heap.size < w2.heap.size := H2.out.1.lt
    refine (HMU.out w3 w1.heap.size w2.heap.size ((H1.out.1.below' H2.out.2).below' H3.out.2) (H2.out.1.keep H3.out.2) H3.out.1 (by omega) (by omega) (by omega)).mono ?_
    rintro e w4 ⟨rfl, hf, hW4⟩
    have H4 : Hid (FVal w4 2344 2 w.heap.size (XP * XV * ((2 ^ 64 : Nat) : Int)) ∧ Below w.heap.size w w4) := ⟨hf, ((H1.out.2.trans (H2.out.2.mono (Nat.le_of_lt hs1))).trans (H3.out.2.mono (by omega))).trans hW4⟩
    clear hf hW4 hs1 hs2
    go_wp2_with fail
    refine (HEU.out _).mono ?_
    rintro e w5 ⟨rfl, hx5, hW5⟩
    have H5 := Lib.hid (And.intro hx5 hW5)
    clear hx5 hW5
    go_wp2_with fail
    refine (HC.out w5 w4.heap.size (H4.out.1.keep H5.out.2) H5.out.1).mono ?_
    rintro e w6 ⟨rfl, q6, rfl⟩
    go_wp2_with fail
    refine (HSB.out _).mono ?_
    rintro e w' ⟨rfl, rfl⟩
    unfold fRet2
    go_wp2
    go_ret2
    exact ⟨rfl, below_drewN (H4.out.2.trans (H5.out.2.mono H4.out.2.size)) q6⟩
end Go.Proofs.YtikdhkmcdmnadaaGreatFmt
