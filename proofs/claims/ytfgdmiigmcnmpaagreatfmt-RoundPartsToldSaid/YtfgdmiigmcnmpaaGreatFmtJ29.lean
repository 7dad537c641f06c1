/- Walks and plain laws of this seat's functions, part 29: G25 G26 G27a G27 G27b G28. -/
import Derived.Test.YtfgdmiigmcnmpaaGreatFmtJ28
set_option linter.unusedVariables false
set_option linter.unusedSimpArgs false
namespace Go.Proofs.YtfgdmiigmcnmpaaGreatFmt
open Go.RowKit
attribute [local go_sem ↓] Go.wp_at_zero Go.wp_at_succ

/-! ### round.Add, Sub, Mul -/
theorem addf_calls (bz bx bY K L : Nat) (X Y : Int) (w : World) (hz : Blk w bz 64 (fC 2300 0 0 false (.slice none 0 0) 0)) (hx : FVal w K 1 bx X) (hy : FVal w K 1 bY Y) (hnx : bx ≠ bz) (hny : bY ≠ bz) (hX : X.natAbs < 2 ^ L) (hY : Y.natAbs < 2 ^ L) (hL : L ≤ 2239) (hK : K ≤ 4000) :
    Calls Tryz.prog 49 #[.pointer (some ⟨bz, 0, none⟩), .pointer (some ⟨bx, 0, none⟩), .pointer (some ⟨bY, 0, none⟩)] w fun e w' => e = .returned (.pointer (some ⟨bz, 0, none⟩)) ∧ FVal w' (K + 64) 35 bz ((X + Y) * ((2 ^ 64 : Nat) : Int)) ∧ Below bz w w' := by
  obtain ⟨ax, fx, nx, vx, ex, bxb, hvx⟩ := hx
  obtain ⟨ay, fy, ny, vy, ey, byb, hvy⟩ := hy
  have up : ∀ e w', (e = Ending.returned (.pointer (some ⟨bz, 0, none⟩)) ∧ FVal w' K 1 bz (X + Y) ∧ Below bz w w') → (e = Ending.returned (.pointer (some ⟨bz, 0, none⟩)) ∧ FVal w' (K + 64) 35 bz ((X + Y) * ((2 ^ 64 : Nat) : Int)) ∧ Below bz w w') := fun e w' ⟨h1, h2, h3⟩ => ⟨h1, (h2.raise (J := 64)).more (by decide), h3⟩
  rcases hvx with ⟨rfl, rfl⟩ | ⟨rfl, hmx⟩
  · rcases hvy with ⟨rfl, rfl⟩ | ⟨rfl, hmy⟩
    · exact (addf_zero bz bx bY K 1 0 0 _ _ ax ay ex ey nx ny vx vy w hz bxb byb hnx hny (by decide) (.inl ⟨rfl, rfl, rfl, rfl⟩)).mono up
    · exact (addf_zero bz bx bY K 1 0 Y _ _ ax ay ex ey nx ny vx vy w hz bxb byb hnx hny (by decide) (.inr (.inl ⟨rfl, rfl, rfl, hmy⟩))).mono up
  · rcases hvy with ⟨rfl, rfl⟩ | ⟨rfl, hmy⟩
    · exact (addf_zero bz bx bY K 1 X 0 _ _ ax ay ex ey nx ny vx vy w hz bxb byb hnx hny (by decide) (.inr (.inr ⟨rfl, rfl, rfl, hmx⟩))).mono up
    · obtain ⟨B1, m1, n1, o1, l1, p1, q1, z1, rfl, e1⟩ := hmx
      obtain ⟨B2, m2, n2, o2, l2, p2, q2, z2, rfl, e2⟩ := hmy
      have g1 := ex_bd l1 p1 z1 nx hX
      have g2 := ex_bd l2 p2 z2 ny hY
      rw [sg_abs] at hX hY
      have hbig : ∀ S M1 M2 : Nat, ∀ k : Nat, S * 2 ^ k = M1 + M2 → M1 < 2 ^ L → M2 < 2 ^ L → bl S ≤ 2240 := by
        intro S M1 M2 k h1 h2 h3
        have h4 : S ≤ S * 2 ^ k := Nat.le_mul_of_pos_right _ (Nat.pow_pos (by decide))
        have h5 : S < 2 ^ (L + 1) := by rw [Nat.pow_succ]; omega
        exact Nat.le_trans (bl_le_of_lt h5) (by omega)
      refine (addf_fin bz bx bY m1 m2 n1 n2 B1 B2 K ax ay ex ey nx ny vx vy w hz bxb byb hnx hny o1 o2 l1 l2 p1 p2 (by omega) (by omega) (by omega) (by omega) z1 z2 ?_ ?_)
      · exact hbig _ _ _ _ (sumM_mag z1 z2) hX hY
      · exact hbig _ _ _ _ (sumM_mag z2 z1) hY hX
set_option exponentiation.threshold 3000 in
theorem rv_bd {r : Nat} (h : r < INFR) : rv r < 2 ^ 2098 := by
  have h1 : rv r < rv INFR := rv_lt h
  rw [rv_inf] at h1
  have e : 9007199254740992 * P2045 = 2 ^ 2098 := by
    unfold P2045
    rw [show (9007199254740992 : Nat) = 2 ^ 53 from by decide, ← Nat.pow_add]
  omega
theorem fv_bd {u : Nat} (hu : u < 18446744073709551616) (hf : fin u = true) : (fv u).natAbs < 2 ^ 2098 := by
  obtain ⟨h1, h2⟩ := word_of hu hf
  rw [h1, fv_word h2, sg_abs]
  exact rv_bd h2
/-- what Add, Sub, Mul tell (values in parts of 2^-2148) -/
def exS (c : Int) (u v : Nat) : Int := if c = 1 then (fv u + fv v) * ((2 ^ 1074 : Nat) : Int) else if c = 2 then (fv u - fv v) * ((2 ^ 1074 : Nat) : Int) else fv u * fv v
def askS (c d : Int) (u v : Nat) : Option Nat := if pairB d u v then rndS d 2148 (exS c u v) else none
theorem pairB_true {d : Int} {u v : Nat} (h : pairB d u v = true) : fin u = true ∧ fin v = true ∧ 0 ≤ d ∧ d ≤ 2 := by
  unfold pairB at h; simp at h; exact ⟨h.1.1, h.1.2, h.2.1, h.2.2⟩
theorem ask_false {c d : Int} {u v : Nat} (h : pairB d u v = false) : askS c d u v = none := by unfold askS; rw [h, if_neg (by decide)]
theorem ask_true {c d : Int} {u v : Nat} (h : pairB d u v = true) : askS c d u v = rndS d 2148 (exS c u v) := by unfold askS; rw [if_pos h]
theorem exS_1 (u v : Nat) : exS 1 u v = (fv u + fv v) * ((2 ^ 1074 : Nat) : Int) := by unfold exS; rw [if_pos rfl]
theorem exS_2 (u v : Nat) : exS 2 u v = (fv u - fv v) * ((2 ^ 1074 : Nat) : Int) := by unfold exS; rw [if_neg (by decide), if_pos rfl]
theorem exS_3 (u v : Nat) : exS 3 u v = fv u * fv v := by unfold exS; rw [if_neg (by decide), if_neg (by decide)]
theorem pow_int (a b : Nat) : ((2 ^ a : Nat) : Int) * ((2 ^ b : Nat) : Int) = ((2 ^ (a + b) : Nat) : Int) := by rw [← Int.natCast_mul, ← Nat.pow_add]
set_option exponentiation.threshold 3000 in
theorem add_val (d : Int) (x y : Int) : rndS d 1204 ((x * ((2 ^ 66 : Nat) : Int) + y * ((2 ^ 66 : Nat) : Int)) * ((2 ^ 64 : Nat) : Int)) = rndS d 2148 ((x + y) * ((2 ^ 1074 : Nat) : Int)) := by
  have h := rndS_scale d (K := 1204) (by decide) 944 ((x * ((2 ^ 66 : Nat) : Int) + y * ((2 ^ 66 : Nat) : Int)) * ((2 ^ 64 : Nat) : Int))
  rw [← h, ← Int.add_mul, Int.mul_assoc, Int.mul_assoc, pow_int 64 944, pow_int 66]
set_option exponentiation.threshold 3000 in
theorem mul_val (d : Int) (x y : Int) : rndS d 2344 (x * ((2 ^ 66 : Nat) : Int) * (y * ((2 ^ 66 : Nat) : Int)) * ((2 ^ 64 : Nat) : Int)) = rndS d 2148 (x * y) := by
  have h := rndS_scale d (K := 2148) (by decide) 196 (x * y)
  rw [← h]
  refine congrArg (rndS d 2344) ?_
  rw [Int.mul_assoc x, Int.mul_left_comm _ y, ← Int.mul_assoc x y, Int.mul_assoc (x * y), pow_int 66 66, pow_int 132 64]
set_option exponentiation.threshold 3000 in
theorem scale_bd {x : Int} (hx : x.natAbs < 2 ^ 2098) : (x * ((2 ^ 66 : Nat) : Int)).natAbs < 2 ^ 2164 := by
  rw [Int.natAbs_mul, Int.natAbs_natCast]
  have h := Nat.mul_lt_mul_of_pos_right hx (Nat.pow_pos (n := 66) (a := 2) (by decide))
  rwa [← Nat.pow_add] at h
theorem exact66 (u : Nat) (hu : u < 18446744073709551616) (hf : fin u = true) (w : World) :
    Calls Tryz.prog 32 #[.float .f64 u] w fun e w' => e = .returned (.pointer (some ⟨w.heap.size, 0, none⟩)) ∧ FVal w' 1140 1 w.heap.size (fv u * ((2 ^ 66 : Nat) : Int)) ∧ Below w.heap.size w w' := exact_calls u 1140 hu hf (by decide) w
set_option maxHeartbeats 4000000 in
set_option maxRecDepth 100000 in
theorem radd_calls (d : Int) (u v : Nat) (hu : u < 18446744073709551616) (hv : v < 18446744073709551616) (w : World) :
    Calls Tryz.prog 18 #[.int .i64 d, .float .f64 u, .float .f64 v] w fun e w' => e = fRet2 (askS 1 d u v) ∧ Below w.heap.size w w' := by
  have HP := Lib.hid (fun W => pair_calls d u v hu hv W)
  obtain ⟨b, hb⟩ : ∃ b, pairB d u v = b := ⟨_, rfl⟩
  rw [hb] at HP
  cases b
  · have HR : Hid (askS 1 d u v = none) := ask_false hb
    clear hb hu hv
    go_enter Tryz.func18, Tryz.ntmps18
    go_wp2_with fail
    refine (HP.out _).mono ?_
    rintro e w' ⟨rfl, rfl⟩
    go_wp2
    go_ret2
    exact ⟨ret2_none HR.out, Below.refl _ _⟩
  · obtain ⟨fu, fv', hd1, hd2⟩ := pairB_true hb
    have hbu := fv_bd hu fu
    have hbv := fv_bd hv fv'
    have HEU := Lib.hid (fun W => exact66 u hu fu W)
    have HEV := Lib.hid (fun W => exact66 v hv fv' W)
    have HSP := Lib.hid (fun W => setprec_calls w.heap.size W)
    have HAD := Lib.hid (fun W b1 b2 (hz : Blk W w.heap.size 64 (fC 2300 0 0 false (.slice none 0 0) 0)) (hx : FVal W 1140 1 b1 (fv u * ((2 ^ 66 : Nat) : Int))) (hy : FVal W 1140 1 b2 (fv v * ((2 ^ 66 : Nat) : Int))) (h1 : b1 ≠ w.heap.size) (h2 : b2 ≠ w.heap.size) => addf_calls w.heap.size b1 b2 1140 2164 _ _ W hz hx hy h1 h2 (scale_bd hbu) (scale_bd hbv) (by decide) (by decide))
    have HT := Lib.hid (fun W X (hx : FVal W 1204 35 w.heap.size X) => ftold_calls d w.heap.size 1204 35 X W hx (by decide) (by decide) ⟨hd1, hd2⟩)
    have HVAL : Hid (rndS d 1204 ((fv u * ((2 ^ 66 : Nat) : Int) + fv v * ((2 ^ 66 : Nat) : Int)) * ((2 ^ 64 : Nat) : Int)) = askS 1 d u v) := by
      rw [Hid, ask_true hb, exS_1]; exact add_val d _ _
    have HN := Lib.hid (float_new w)
    have HW := Lib.hid (below_new (Below.refl w.heap.size w) (.cells #[.int .u32 0, .int .u8 0, .int .i8 0, .int .u8 0, .bool false, .slice none 0 0, .int .i32 0] 64))
    obtain ⟨o, ho⟩ : ∃ o, askS 1 d u v = o := ⟨_, rfl⟩
    rw [ho] at HVAL ⊢
    clear hb hu hv fu fv' hd1 hd2 hbu hbv ho
    go_enter Tryz.func18, Tryz.ntmps18
    go_wp2_with fail
    refine (HP.out _).mono ?_
    rintro e w' ⟨rfl, rfl⟩
    go_wp2_with fail
    refine (HSP.out _ HN.out).mono ?_
    rintro e w1 ⟨rfl, hz1, hW1⟩
    have H1 := Lib.hid (And.intro hz1 (HW.out.trans hW1))
    clear hz1 hW1
    go_wp2_with fail
    refine (HEU.out _).mono ?_
    rintro e w2 ⟨rfl, hx2, hW2⟩
    have H2 := Lib.hid (And.intro hx2 hW2)
    clear hx2 hW2
    go_wp2_with fail
    refine (HEV.out _).mono ?_
    rintro e w3 ⟨rfl, hy3, hW3⟩
    have H3 := Lib.hid (And.intro hy3 hW3)
    clear hy3 hW3
    go_wp2_with fail
    have hs1 : w.heap.size < w1.heap.size := H1.out.1.lt
    have hs2 : w1.heap.size < w2.heap.size := H2.out.1.lt
    refine (HAD.out w3 w1.heap.size w2.heap.size ((H1.out.1.below' H2.out.2).below' H3.out.2) (H2.out.1.keep H3.out.2) H3.out.1 (by omega) (by omega)).mono ?_
    rintro e w4 ⟨rfl, hf, hW4⟩
    have H4 : Hid (FVal w4 1204 35 w.heap.size ((fv u * ((2 ^ 66 : Nat) : Int) + fv v * ((2 ^ 66 : Nat) : Int)) * ((2 ^ 64 : Nat) : Int)) ∧ Below w.heap.size w w4) := ⟨hf, ((H1.out.2.trans (H2.out.2.mono (Nat.le_of_lt hs1))).trans (H3.out.2.mono (by omega))).trans hW4⟩
    clear hf hW4
    go_wp2_with fail
    have HT4 := Lib.hid (HT.out w4 _ H4.out.1)
    rw [HVAL.out] at HT4
    refine HT4.out.mono ?_
    rintro e w5 ⟨rfl, hW5⟩
    have H5 := Lib.hid (H4.out.2.trans (hW5.mono H4.out.2.size))
    clear hW5 hs1 hs2
    unfold fRet2
    go_wp2
    go_ret2
    exact ⟨rfl, H5.out⟩
end Go.Proofs.YtfgdmiigmcnmpaaGreatFmt

namespace Go.Proofs.YtfgdmiigmcnmpaaGreatFmt
open Go.RowKit
attribute [local go_sem ↓] Go.wp_at_zero Go.wp_at_succ

/-! ### round.Mul, Sub -/
set_option maxHeartbeats 4000000 in
set_option maxRecDepth 100000 in
theorem rmul_calls (d : Int) (u v : Nat) (hu : u < 18446744073709551616) (hv : v < 18446744073709551616) (w : World) :
    Calls Tryz.prog 19 #[.int .i64 d, .float .f64 u, .float .f64 v] w fun e w' => e = fRet2 (askS 3 d u v) ∧ Below w.heap.size w w' := by
  have HP := Lib.hid (fun W => pair_calls d u v hu hv W)
  obtain ⟨b, hb⟩ : ∃ b, pairB d u v = b := ⟨_, rfl⟩
  rw [hb] at HP
  cases b
  · have HR : Hid (askS 3 d u v = none) := ask_false hb
    clear hb hu hv
    go_enter Tryz.func19, Tryz.ntmps19
    go_wp2_with fail
    refine (HP.out _).mono ?_
    rintro e w' ⟨rfl, rfl⟩
    go_wp2
    go_ret2
    exact ⟨ret2_none HR.out, Below.refl _ _⟩
  · obtain ⟨fu, fv', hd1, hd2⟩ := pairB_true hb
    have hbu := fv_bd hu fu
    have hbv := fv_bd hv fv'
    have HEU := Lib.hid (fun W => exact66 u hu fu W)
    have HEV := Lib.hid (fun W => exact66 v hv fv' W)
    have HSP := Lib.hid (fun W => setprec_calls w.heap.size W)
    have HAD := Lib.hid (fun W b1 b2 (hz : Blk W w.heap.size 64 (fC 2300 0 0 false (.slice none 0 0) 0)) (hx : FVal W 1140 1 b1 (fv u * ((2 ^ 66 : Nat) : Int))) (hy : FVal W 1140 1 b2 (fv v * ((2 ^ 66 : Nat) : Int))) (h1 : b1 ≠ w.heap.size) (h2 : b2 ≠ w.heap.size) (h3 : b1 ≠ b2) => mulf_calls w.heap.size b1 b2 1140 1140 2164 _ _ W hz hx hy h3 h1 h2 (by decide) (by decide) (scale_bd hbu) (scale_bd hbv) (by decide))
    have HT := Lib.hid (fun W X (hx : FVal W 2344 2 w.heap.size X) => ftold_calls d w.heap.size 2344 2 X W hx (by decide) (by decide) ⟨hd1, hd2⟩)
    have HVAL : Hid (rndS d 2344 (fv u * ((2 ^ 66 : Nat) : Int) * (fv v * ((2 ^ 66 : Nat) : Int)) * ((2 ^ 64 : Nat) : Int)) = askS 3 d u v) := by
      rw [Hid, ask_true hb, exS_3]; exact mul_val d _ _
    have HN := Lib.hid (float_new w)
    have HW := Lib.hid (below_new (Below.refl w.heap.size w) (.cells #[.int .u32 0, .int .u8 0, .int .i8 0, .int .u8 0, .bool false, .slice none 0 0, .int .i32 0] 64))
    obtain ⟨o, ho⟩ : ∃ o, askS 3 d u v = o := ⟨_, rfl⟩
    rw [ho] at HVAL ⊢
    clear hb hu hv fu fv' hd1 hd2 hbu hbv ho
    go_enter Tryz.func19, Tryz.ntmps19
    go_wp2_with fail
    refine (HP.out _).mono ?_
    rintro e w' ⟨rfl, rfl⟩
    go_wp2_with fail
    refine (HSP.out _ HN.out).mono ?_
    rintro e w1 ⟨rfl, hz1, hW1⟩
    have H1 := Lib.hid (And.intro hz1 (HW.out.trans hW1))
    clear hz1 hW1
    go_wp2_with fail
    refine (HEU.out _).mono ?_
    rintro e w2 ⟨rfl, hx2, hW2⟩
    have H2 := Lib.hid (And.intro hx2 hW2)
    clear hx2 hW2
    go_wp2_with fail
    refine (HEV.out _).mono ?_
    rintro e w3 ⟨rfl, hy3, hW3⟩
    have H3 := Lib.hid (And.intro hy3 hW3)
    clear hy3 hW3
    go_wp2_with fail
    have hs1 : w.heap.size < w1.heap.size := H1.out.1.lt
    have hs2 : w1.heap.size < w2.heap.size := H2.out.1.lt
    refine (HAD.out w3 w1.heap.size w2.heap.size ((H1.out.1.below' H2.out.2).below' H3.out.2) (H2.out.1.keep H3.out.2) H3.out.1 (by omega) (by omega) (by omega)).mono ?_
    rintro e w4 ⟨rfl, hf, hW4⟩
    have H4 : Hid (FVal w4 2344 2 w.heap.size (fv u * ((2 ^ 66 : Nat) : Int) * (fv v * ((2 ^ 66 : Nat) : Int)) * ((2 ^ 64 : Nat) : Int)) ∧ Below w.heap.size w w4) := ⟨hf, ((H1.out.2.trans (H2.out.2.mono (Nat.le_of_lt hs1))).trans (H3.out.2.mono (by omega))).trans hW4⟩
    clear hf hW4
    go_wp2_with fail
    have HT4 := Lib.hid (HT.out w4 _ H4.out.1)
    rw [HVAL.out] at HT4
    refine HT4.out.mono ?_
    rintro e w5 ⟨rfl, hW5⟩
    have H5 := Lib.hid (H4.out.2.trans (hW5.mono H4.out.2.size))
    clear hW5 hs1 hs2
    unfold fRet2
    go_wp2
    go_ret2
    exact ⟨rfl, H5.out⟩
theorem fv_uneg {v : Nat} (hv : v < 18446744073709551616) (hf : fin v = true) : fv (uneg v) = -fv v ∧ fin (uneg v) = true ∧ uneg v < 18446744073709551616 := by
  obtain ⟨h1, h2⟩ := word_of hv hf
  obtain ⟨n, hn⟩ : ∃ n, fneg v = n := ⟨_, rfl⟩
  obtain ⟨r, hr⟩ : ∃ r, uabs v = r := ⟨_, rfl⟩
  rw [hn, hr] at h1
  rw [hr] at h2
  subst h1
  have hi : INFR < 9223372036854775808 := by decide
  rw [neg_word n h2, fv_word h2, fv_word h2]
  exact ⟨by cases n <;> simp [sg], word_fin h2, word_lt (by omega)⟩
theorem uneg_lt {v : Nat} (hv : v < 18446744073709551616) : uneg v < 18446744073709551616 := by
  unfold uneg; exact Nat.xor_lt_two_pow (n := 64) hv (by decide)
theorem uneg_uneg (v : Nat) : uneg (uneg v) = v := by unfold uneg; rw [Nat.xor_assoc, Nat.xor_self, Nat.xor_zero]
theorem fin_uneg {v : Nat} (hv : v < 18446744073709551616) : fin (uneg v) = fin v := by
  rcases h : fin v with _ | _
  · rcases h2 : fin (uneg v) with _ | _
    · rfl
    · have := (fv_uneg (uneg_lt hv) h2).2.1
      rw [uneg_uneg, h] at this; exact this.symm ▸ rfl
  · exact (fv_uneg hv h).2.1
theorem ask_sub (d : Int) (u v : Nat) (hv : v < 18446744073709551616) : askS 1 d u (uneg v) = askS 2 d u v := by
  have hp : pairB d u (uneg v) = pairB d u v := by unfold pairB; rw [fin_uneg hv]
  rcases h : pairB d u v with _ | _
  · rw [ask_false h, ask_false (hp.trans h)]
  · rw [ask_true h, ask_true (hp.trans h), exS_1, exS_2, (fv_uneg hv (pairB_true h).2.1).1]; rfl
theorem rsub_calls (d : Int) (u v : Nat) (hu : u < 18446744073709551616) (hv : v < 18446744073709551616) (w : World) :
    Calls Tryz.prog 42 #[.int .i64 d, .float .f64 u, .float .f64 v] w fun e w' => e = fRet2 (askS 2 d u v) ∧ Below w.heap.size w w' := by
  have HA := Lib.hid (fun W => radd_calls d u (uneg v) hu (uneg_lt hv) W)
  rw [ask_sub d u v hv] at HA
  have hng : ∀ W, (Op.unary .neg (.float .f64 v)).run Tryz.prog W = .ok (.float .f64 (uneg v)) W := fun W => by rfl
  obtain ⟨v', hv'⟩ : ∃ x, uneg v = x := ⟨_, rfl⟩
  rw [hv'] at HA hng
  clear hu hv hv'
  go_enter Tryz.func42, Tryz.ntmps42
  go_wp2_with fail
  refine (HA.out _).mono ?_
  rintro e w' ⟨rfl, hW⟩
  have HW := Lib.hid hW
  clear hW
  unfold fRet2
  go_wp2
  go_ret2
  exact ⟨rfl, HW.out⟩
end Go.Proofs.YtfgdmiigmcnmpaaGreatFmt

namespace Go.Proofs.YtfgdmiigmcnmpaaGreatFmt
open Go.RowKit
attribute [local go_sem ↓] Go.wp_at_zero Go.wp_at_succ

/-! ### round.Div -/
theorem run_fquo (ty : Nat) {u v s : Nat} (h : Ieee.double.div u v = some s) (W : World) : (binOp .quo ty (.float .f64 u) (.float .f64 v)).run Tryz.prog W = .ok (.float .f64 s) W := by
  have h' : FloatKind.f64.format.div u v = some s := h
  simp [binOp, Op.floatArith, h']
def divS (d : Int) (u v : Nat) : Option Nat := if pairB d u v && decide (uabs v ≠ 0) then (if uabs u = 0 then some 0 else qS d (fneg u != fneg v) (rv (uabs u)) (rv (uabs v))) else none
theorem sign_four (a b : Bool) (x y : Nat) (c : Int) (hc : 0 < c) : (if b then -(Int.sign ((sg a x - sg a y) * c)) else Int.sign ((sg a x - sg a y) * c)) = Int.sign (sg (a != b) x - sg (a != b) y) := by
  rw [Int.sign_mul, Int.sign_eq_one_of_pos hc, Int.mul_one]
  cases b
  · rw [if_neg (by decide)]; cases a <;> rfl
  · rw [if_pos rfl, ← Int.sign_neg]
    refine congrArg Int.sign ?_
    cases a
    · show -((x : Int) - (y : Int)) = -(x : Int) - -(y : Int); omega
    · show -(-(x : Int) - -(y : Int)) = (x : Int) - (y : Int); omega
theorem div_alg (a b : Bool) (Q B A : Nat) (c1 c2 c3 c4 : Int) (P : Nat) (h1 : c1 * c1 * c2 = c4) (h2 : (P : Int) * c4 = c3) :
    sg (a != b) Q * c1 * (sg b B * c1) * c2 - sg a A * c3 = (sg a (Q * B) - sg a (A * P)) * c4 := by
  have e1 : sg (a != b) Q * c1 * (sg b B * c1) * c2 = sg a (Q * B) * c4 := by
    have h3 : sg (a != b) Q * sg b B = sg a (Q * B) := by rw [sg_times]; cases a <;> cases b <;> rfl
    rw [← h3, ← h1]
    simp only [Int.mul_assoc, Int.mul_left_comm]
  have e2 : sg a A * c3 = sg a (A * P) * c4 := by rw [← h2, ← sg_pow, Int.mul_assoc]
  rw [e1, e2, Int.sub_mul]
theorem pow_pos_int (n : Nat) : (0 : Int) < ((2 ^ n : Nat) : Int) := Int.natCast_pos.2 (Nat.pow_pos (by decide))
set_option exponentiation.threshold 3000 in
theorem c_pows : ((2 ^ 66 : Nat) : Int) * ((2 ^ 66 : Nat) : Int) * ((2 ^ 64 : Nat) : Int) = ((2 ^ 196 : Nat) : Int) ∧ ((2 ^ 1074 : Nat) : Int) * ((2 ^ 196 : Nat) : Int) = ((2 ^ 1270 : Nat) : Int) := by
  constructor
  · rw [pow_int 66 66, pow_int]
  · rw [pow_int]
theorem div_cmp {a b : Bool} {r s rq : Nat} (hA : rv r ≠ 0) (hB : rv s ≠ 0) (hlt : r0R (hQ (rv r) (rv s)) (restQ (rv r) (rv s)) (eQ (rv r) (rv s)) < INFR) (hq : rq = nearR (hQ (rv r) (rv s)) (restQ (rv r) (rv s)) (eQ (rv r) (rv s))) :
    (if b then -(Int.sign (sg (a != b) (rv rq) * ((2 ^ 66 : Nat) : Int) * (sg b (rv s) * ((2 ^ 66 : Nat) : Int)) * ((2 ^ 64 : Nat) : Int) - sg a (rv r) * ((2 ^ 1270 : Nat) : Int))) else Int.sign (sg (a != b) (rv rq) * ((2 ^ 66 : Nat) : Int) * (sg b (rv s) * ((2 ^ 66 : Nat) : Int)) * ((2 ^ 64 : Nat) : Int) - sg a (rv r) * ((2 ^ 1270 : Nat) : Int)))
      = accR (a != b) (hQ (rv r) (rv s)) (restQ (rv r) (rv s)) (eQ (rv r) (rv s)) := by
  have h := div_acc hA hB (a != b) hlt
  rw [← hq] at h
  rw [h]
  obtain ⟨p1, p2⟩ := c_pows
  have p3 := pow_pos_int 196
  generalize ((2 ^ 66 : Nat) : Int) = c1 at *
  generalize ((2 ^ 64 : Nat) : Int) = c2 at *
  generalize ((2 ^ 1270 : Nat) : Int) = c3 at *
  generalize ((2 ^ 196 : Nat) : Int) = c4 at *
  generalize (2 ^ 1074 : Nat) = P at *
  rw [div_alg a b _ _ _ c1 c2 c3 c4 P p1 p2]
  exact sign_four a b _ _ c4 p3
theorem order_zero {b : Bool} {s : Nat} (hs : s ≤ INFR) : Ieee.double.order (wordR b s) 0 = some (compare (sval b s) 0) := by
  have := order_word (a := b) (b := false) (r := s) (s := 0) hs (by decide)
  exact this
theorem eq_zero_f {b : Bool} {s : Nat} (hs : s ≤ INFR) : (FloatKind.f64.format.order (wordR b s) 0 == some .eq) = decide (s = 0) := by
  show (Ieee.double.order (wordR b s) 0 == some .eq) = _
  rw [order_zero hs]
  by_cases h : s = 0
  · subst h; cases b <;> rfl
  · rw [decide_eq_false h]
    cases b
    · rw [Int.compare_eq_gt.2 (by simp only [sval, Bool.false_eq_true, if_false]; omega)]; rfl
    · rw [Int.compare_eq_lt.2 (by simp only [sval, if_true]; omega)]; rfl
theorem lt_zero_f {b : Bool} {s : Nat} (hs : s ≤ INFR) (h0 : s ≠ 0) : (FloatKind.f64.format.order (wordR b s) 0 == some .lt) = b := by
  show (Ieee.double.order (wordR b s) 0 == some .lt) = _
  rw [order_zero hs]
  cases b
  · rw [Int.compare_eq_gt.2 (by simp only [sval, Bool.false_eq_true, if_false]; omega)]; rfl
  · rw [Int.compare_eq_lt.2 (by simp only [sval, if_true]; omega)]; rfl
end Go.Proofs.YtfgdmiigmcnmpaaGreatFmt

namespace Go.Proofs.YtfgdmiigmcnmpaaGreatFmt
open Go.RowKit
attribute [local go_sem ↓] Go.wp_at_zero Go.wp_at_succ

set_option exponentiation.threshold 3000 in
set_option maxHeartbeats 4000000 in
set_option maxRecDepth 100000 in
/-- a quotient that is a number -/
theorem rdiv_fin (d : Int) (u v rq : Nat) (n b : Bool) (hu : u < 18446744073709551616) (hv : v < 18446744073709551616) (hp : pairB d u v = true) (hv0 : (FloatKind.f64.format.order v 0 == some .eq) = false) (hvl : (FloatKind.f64.format.order v 0 == some .lt) = b) (hq : Ieee.double.div u v = some (wordR n rq)) (hrq : rq < INFR) (c0 : Int)
    (hc0 : Int.sign (sg n (rv rq) * ((2 ^ 66 : Nat) : Int) * (fv v * ((2 ^ 66 : Nat) : Int)) * ((2 ^ 64 : Nat) : Int) - fv u * ((2 ^ 1270 : Nat) : Int)) = c0) (w : World) :
    Calls Tryz.prog 9 #[.int .i64 d, .float .f64 u, .float .f64 v] w fun e w' => e = fRet2 (sideS d n rq (if b then -c0 else c0)) ∧ Below w.heap.size w w' := by
  obtain ⟨fu, fv', hd1, hd2⟩ := pairB_true hp
  have hi : INFR < 9223372036854775808 := by decide
  have HP := Lib.hid (fun W => pair_calls d u v hu hv W)
  rw [hp] at HP
  have hquo := run_fquo 22 hq
  have HI := Lib.hid (fun W => isinf_word n rq (Nat.le_of_lt hrq) W)
  rw [decide_eq_false (by omega : ¬ rq = INFR)] at HI
  have hqb : wordR n rq < 18446744073709551616 := word_lt (by omega)
  have hqv := fv_word (neg := n) hrq
  have HEQ := Lib.hid (fun W => exact66 (wordR n rq) hqb (word_fin hrq) W)
  rw [hqv] at HEQ
  have HEV := Lib.hid (fun W => exact66 v hv fv' W)
  have HEU := Lib.hid (fun W => exact_calls u 2344 hu fu (by decide) W)
  have hbq : (sg n (rv rq) * ((2 ^ 66 : Nat) : Int)).natAbs < 2 ^ 2164 := scale_bd (by rw [sg_abs]; exact rv_bd hrq)
  have HSP := Lib.hid (fun W => setprec_calls w.heap.size W)
  have HMU := Lib.hid (fun W b1 b2 (hz : Blk W w.heap.size 64 (fC 2300 0 0 false (.slice none 0 0) 0)) (hx : FVal W 1140 1 b1 (sg n (rv rq) * ((2 ^ 66 : Nat) : Int))) (hy : FVal W 1140 1 b2 (fv v * ((2 ^ 66 : Nat) : Int))) (h1 : b1 ≠ w.heap.size) (h2 : b2 ≠ w.heap.size) (h3 : b1 ≠ b2) => mulf_calls w.heap.size b1 b2 1140 1140 2164 _ _ W hz hx hy h3 h1 h2 (by decide) (by decide) hbq (scale_bd (fv_bd hv fv')) (by decide))
  have HC := Lib.hid (fun W b2 (hx : FVal W 2344 2 w.heap.size (sg n (rv rq) * ((2 ^ 66 : Nat) : Int) * (fv v * ((2 ^ 66 : Nat) : Int)) * ((2 ^ 64 : Nat) : Int))) (hy : FVal W 2344 1 b2 (fv u * ((2 ^ 1270 : Nat) : Int))) => cmpf_calls w.heap.size b2 2344 2 1 _ _ W hx hy)
  rw [hc0] at HC
  have hcb : -1 ≤ c0 ∧ c0 ≤ 1 := by
    rw [← hc0]
    rcases Int.lt_trichotomy (sg n (rv rq) * ((2 ^ 66 : Nat) : Int) * (fv v * ((2 ^ 66 : Nat) : Int)) * ((2 ^ 64 : Nat) : Int) - fv u * ((2 ^ 1270 : Nat) : Int)) 0 with h | h | h
    · rw [Int.sign_eq_neg_one_of_neg h]; decide
    · rw [h]; decide
    · rw [Int.sign_eq_one_of_pos h]; decide
  have HS := Lib.hid (fun c W (hc : -2 ≤ c ∧ c ≤ 2) => side_calls d n rq c ⟨hd1, hd2⟩ (Nat.le_of_lt hrq) hc W)
  have HSA := Lib.hid (fun W => HS.out c0 W (by omega))
  have HSB := Lib.hid (fun W => HS.out (-c0) W (by omega))
  have hwn : IntKind.i64.wrap (-c0) = -c0 := IntWalk.i64_in _ (by omega)
  have HN := Lib.hid (float_new w)
  have HW := Lib.hid (below_new (Below.refl w.heap.size w) (.cells #[.int .u32 0, .int .u8 0, .int .i8 0, .int .u8 0, .bool false, .slice none 0 0, .int .i32 0] 64))
  obtain ⟨q, hqq⟩ : ∃ q, wordR n rq = q := ⟨_, rfl⟩
  rw [hqq] at hquo HI HEQ HSA HSB
  obtain ⟨XP, hXP⟩ : ∃ x, sg n (rv rq) * ((2 ^ 66 : Nat) : Int) = x := ⟨_, rfl⟩
  rw [hXP] at HEQ HMU HC
  obtain ⟨XV, hXV⟩ : ∃ x, fv v * ((2 ^ 66 : Nat) : Int) = x := ⟨_, rfl⟩
  rw [hXV] at HEV HMU HC
  obtain ⟨o1, ho1⟩ : ∃ o, sideS d n rq c0 = o := ⟨_, rfl⟩
  obtain ⟨o2, ho2⟩ : ∃ o, sideS d n rq (-c0) = o := ⟨_, rfl⟩
  rw [ho1] at HSA
  rw [ho2] at HSB
  have HOO : Hid (sideS d n rq (if b then -c0 else c0) = if b then o2 else o1) := by cases b; exact ho1; exact ho2
  rw [HOO.out]
  clear hu hv hp hq hrq hi hqb hqv hbq hcb hc0 fu fv' hd1 hd2 hqq hXP hXV ho1 ho2 HS HOO
  cases b
  · go_enter Tryz.func9, Tryz.ntmps9
    go_wp2_with fail
    refine (HP.out _).mono ?_
    rintro e w' ⟨rfl, rfl⟩
    go_wp2_with fail
    refine (HI.out _).mono ?_
    rintro e w' ⟨rfl, rfl⟩
    go_wp2_with fail
    refine (HSP.out _ HN.out).mono ?_
    rintro e w1 ⟨rfl, hz1, hW1⟩
    have H1 := Lib.hid (And.intro hz1 (HW.out.trans hW1))
    clear hz1 hW1
    go_wp2_with fail
    refine (HEQ.out _).mono ?_
    rintro e w2 ⟨rfl, hx2, hW2⟩
    have H2 := Lib.hid (And.intro hx2 hW2)
    clear hx2 hW2
    go_wp2_with fail
    refine (HEV.out _).mono ?_
    rintro e w3 ⟨rfl, hy3, hW3⟩
    have H3 := Lib.hid (And.intro hy3 hW3)
    clear hy3 hW3
    go_wp2_with fail
    have hs1 : w.heap.size < w1.heap.size := H1.out.1.lt
    have hs2 : w1.heap.size < w2.heap.size := H2.out.1.lt
    refine (HMU.out w3 w1.heap.size w2.heap.size ((H1.out.1.below' H2.out.2).below' H3.out.2) (H2.out.1.keep H3.out.2) H3.out.1 (by omega) (by omega) (by omega)).mono ?_
    rintro e w4 ⟨rfl, hf, hW4⟩
    have H4 : Hid (FVal w4 2344 2 w.heap.size (XP * XV * ((2 ^ 64 : Nat) : Int)) ∧ Below w.heap.size w w4) := ⟨hf, ((H1.out.2.trans (H2.out.2.mono (Nat.le_of_lt hs1))).trans (H3.out.2.mono (by omega))).trans hW4⟩
    clear hf hW4 hs1 hs2
    go_wp2_with fail
    refine (HEU.out _).mono ?_
    rintro e w5 ⟨rfl, hx5, hW5⟩
    have H5 := Lib.hid (And.intro hx5 hW5)
    clear hx5 hW5
    go_wp2_with fail
    refine (HC.out w5 w4.heap.size (H4.out.1.keep H5.out.2) H5.out.1).mono ?_
    rintro e w6 ⟨rfl, q6, rfl⟩
    go_wp2_with fail
    refine (HSA.out _).mono ?_
    rintro e w' ⟨rfl, rfl⟩
    unfold fRet2
    go_wp2
    go_ret2
    exact ⟨rfl, below_drewN (H4.out.2.trans (H5.out.2.mono H4.out.2.size)) q6⟩
  · go_enter Tryz.func9, Tryz.ntmps9
    go_wp2_with fail
    refine (HP.out _).mono ?_
    rintro e w' ⟨rfl, rfl⟩
    go_wp2_with fail
    refine (HI.out _).mono ?_
    rintro e w' ⟨rfl, rfl⟩
    go_wp2_with fail
    refine (HSP.out _ HN.out).mono ?_
    rintro e w1 ⟨rfl, hz1, hW1⟩
    have H1 := Lib.hid (And.intro hz1 (HW.out.trans hW1))
    clear hz1 hW1
    go_wp2_with fail
    refine (HEQ.out _).mono ?_
    rintro e w2 ⟨rfl, hx2, hW2⟩
    have H2 := Lib.hid (And.intro hx2 hW2)
    clear hx2 hW2
    go_wp2_with fail
    refine (HEV.out _).mono ?_
    rintro e w3 ⟨rfl, hy3, hW3⟩
    have H3 := Lib.hid (And.intro hy3 hW3)
    clear hy3 hW3
    go_wp2_with fail
    have hs1 : w.heap.size < w1.heap.size := H1.out.1.lt
    have hs2 : w1.heap.size < w2.heap.size := H2.out.1.lt
    refine (HMU.out w3 w1.heap.size w2.heap.size ((H1.out.1.below' H2.out.2).below' H3.out.2) (H2.out.1.keep H3.out.2) H3.out.1 (by omega) (by omega) (by omega)).mono ?_
    rintro e w4 ⟨rfl, hf, hW4⟩
    have H4 : Hid (FVal w4 2344 2 w.heap.size (XP * XV * ((2 ^ 64 : Nat) : Int)) ∧ Below w.heap.size w w4) := ⟨hf, ((H1.out.2.trans (H2.out.2.mono (Nat.le_of_lt hs1))).trans (H3.out.2.mono (by omega))).trans hW4⟩
    clear hf hW4 hs1 hs2
    go_wp2_with fail
    refine (HEU.out _).mono ?_
    rintro e w5 ⟨rfl, hx5, hW5⟩
    have H5 := Lib.hid (And.intro hx5 hW5)
    clear hx5 hW5
    go_wp2_with fail
    refine (HC.out w5 w4.heap.size (H4.out.1.keep H5.out.2) H5.out.1).mono ?_
    rintro e w6 ⟨rfl, q6, rfl⟩
    go_wp2_with fail
    refine (HSB.out _).mono ?_
    rintro e w' ⟨rfl, rfl⟩
    unfold fRet2
    go_wp2
    go_ret2
    exact ⟨rfl, below_drewN (H4.out.2.trans (H5.out.2.mono H4.out.2.size)) q6⟩
end Go.Proofs.YtfgdmiigmcnmpaaGreatFmt

namespace Go.Proofs.YtfgdmiigmcnmpaaGreatFmt
open Go.RowKit
attribute [local go_sem ↓] Go.wp_at_zero Go.wp_at_succ

set_option maxHeartbeats 4000000 in
set_option maxRecDepth 100000 in
/-- a quotient that is an infinity -/
theorem rdiv_inf (d : Int) (u v rq : Nat) (n : Bool) (hu : u < 18446744073709551616) (hv : v < 18446744073709551616) (hp : pairB d u v = true) (hv0 : (FloatKind.f64.format.order v 0 == some .eq) = false) (hq : Ieee.double.div u v = some (wordR n INFR)) (hd : 0 ≤ d ∧ d ≤ 2) (w : World) :
    Calls Tryz.prog 9 #[.int .i64 d, .float .f64 u, .float .f64 v] w fun e w' => e = fRet2 (sideS d n INFR (if n then -1 else 1)) ∧ Below w.heap.size w w' := by
  have HP := Lib.hid (fun W => pair_calls d u v hu hv W)
  rw [hp] at HP
  have hquo := run_fquo 22 hq
  have HI := Lib.hid (fun W => isinf_word n INFR (Nat.le_refl _) W)
  rw [decide_eq_true rfl] at HI
  have hlt := lt_zero_f (b := n) (s := INFR) (Nat.le_refl _) (by decide)
  have HS := Lib.hid (fun c W (hc : -2 ≤ c ∧ c ≤ 2) => side_calls d n INFR c hd (Nat.le_refl _) hc W)
  obtain ⟨q, hqq⟩ : ∃ q, wordR n INFR = q := ⟨_, rfl⟩
  rw [hqq] at hquo HI hlt HS
  clear hu hv hp hq hd hqq
  cases n
  · have HS1 := Lib.hid (fun W => HS.out 1 W (by decide))
    obtain ⟨o, ho⟩ : ∃ o, sideS d false INFR 1 = o := ⟨_, rfl⟩
    rw [ho] at HS1
    have HO : Hid (sideS d false INFR (if false then -1 else 1) = o) := ho
    rw [HO.out]
    clear HS ho
    go_enter Tryz.func9, Tryz.ntmps9
    go_wp2_with fail
    refine (HP.out _).mono ?_
    rintro e w' ⟨rfl, rfl⟩
    go_wp2_with fail
    refine (HI.out _).mono ?_
    rintro e w' ⟨rfl, rfl⟩
    go_wp2_with fail
    refine (HS1.out _).mono ?_
    rintro e w' ⟨rfl, rfl⟩
    unfold fRet2
    go_wp2
    go_ret2
    exact ⟨rfl, Below.refl _ _⟩
  · have HS1 := Lib.hid (fun W => HS.out (-1) W (by decide))
    obtain ⟨o, ho⟩ : ∃ o, sideS d true INFR (-1) = o := ⟨_, rfl⟩
    rw [ho] at HS1
    have HO : Hid (sideS d true INFR (if true then -1 else 1) = o) := ho
    rw [HO.out]
    clear HS ho
    go_enter Tryz.func9, Tryz.ntmps9
    go_wp2_with fail
    refine (HP.out _).mono ?_
    rintro e w' ⟨rfl, rfl⟩
    go_wp2_with fail
    refine (HI.out _).mono ?_
    rintro e w' ⟨rfl, rfl⟩
    go_wp2_with fail
    refine (HS1.out _).mono ?_
    rintro e w' ⟨rfl, rfl⟩
    unfold fRet2
    go_wp2
    go_ret2
    exact ⟨rfl, Below.refl _ _⟩
end Go.Proofs.YtfgdmiigmcnmpaaGreatFmt

namespace Go.Proofs.YtfgdmiigmcnmpaaGreatFmt
open Go.RowKit
attribute [local go_sem ↓] Go.wp_at_zero Go.wp_at_succ

/-! ### round.Div, of any two -/
theorem div_true {d : Int} {u v : Nat} (h : pairB d u v = true) (h0 : uabs v ≠ 0) : divS d u v = if uabs u = 0 then some 0 else qS d (fneg u != fneg v) (rv (uabs u)) (rv (uabs v)) := by
  unfold divS; rw [h, decide_eq_true h0, Bool.and_self, if_pos rfl]
theorem div_false1 {d : Int} {u v : Nat} (h : pairB d u v = false) : divS d u v = none := by unfold divS; rw [h, Bool.false_and, if_neg (by decide)]
theorem div_false2 {d : Int} {u v : Nat} (h0 : uabs v = 0) : divS d u v = none := by unfold divS; rw [decide_eq_false (by omega), Bool.and_false, if_neg (by decide)]
set_option maxHeartbeats 1000000 in
set_option maxRecDepth 100000 in
theorem rdiv_none1 (d : Int) (u v : Nat) (hu : u < 18446744073709551616) (hv : v < 18446744073709551616) (hp : pairB d u v = false) (w : World) :
    Calls Tryz.prog 9 #[.int .i64 d, .float .f64 u, .float .f64 v] w fun e w' => e = fRet2 none ∧ Below w.heap.size w w' := by
  have HP := Lib.hid (fun W => pair_calls d u v hu hv W)
  rw [hp] at HP
  clear hu hv hp
  go_enter Tryz.func9, Tryz.ntmps9
  go_wp2_with fail
  refine (HP.out _).mono ?_
  rintro e w' ⟨rfl, rfl⟩
  go_wp2
  go_ret2
  exact ⟨rfl, Below.refl _ _⟩
set_option maxHeartbeats 1000000 in
set_option maxRecDepth 100000 in
theorem rdiv_none2 (d : Int) (u v : Nat) (hu : u < 18446744073709551616) (hv : v < 18446744073709551616) (hp : pairB d u v = true) (h0 : (FloatKind.f64.format.order v 0 == some .eq) = true) (w : World) :
    Calls Tryz.prog 9 #[.int .i64 d, .float .f64 u, .float .f64 v] w fun e w' => e = fRet2 none ∧ Below w.heap.size w w' := by
  have HP := Lib.hid (fun W => pair_calls d u v hu hv W)
  rw [hp] at HP
  clear hu hv hp
  go_enter Tryz.func9, Tryz.ntmps9
  go_wp2_with fail
  refine (HP.out _).mono ?_
  rintro e w' ⟨rfl, rfl⟩
  go_wp2
  go_ret2
  exact ⟨rfl, Below.refl _ _⟩
theorem rv_ne {r : Nat} (h : r ≠ 0) : rv r ≠ 0 := by have := rv_pos h; omega
theorem rdiv_calls (d : Int) (u v : Nat) (hu : u < 18446744073709551616) (hv : v < 18446744073709551616) (w : World) :
    Calls Tryz.prog 9 #[.int .i64 d, .float .f64 u, .float .f64 v] w fun e w' => e = fRet2 (divS d u v) ∧ Below w.heap.size w w' := by
  rcases hp : pairB d u v with _ | _
  · rw [div_false1 hp]; exact rdiv_none1 d u v hu hv hp w
  · obtain ⟨fu, fv', hd1, hd2⟩ := pairB_true hp
    obtain ⟨ew, hr⟩ := word_of hu fu
    obtain ⟨ev, hs⟩ := word_of hv fv'
    have hvz := eq_zero_f (b := fneg v) (Nat.le_of_lt hs)
    rw [← ev] at hvz
    by_cases h0 : uabs v = 0
    · rw [div_false2 h0]
      rw [decide_eq_true h0] at hvz
      exact rdiv_none2 d u v hu hv hp hvz w
    · rw [decide_eq_false h0] at hvz
      have hvl := lt_zero_f (b := fneg v) (Nat.le_of_lt hs) h0
      rw [← ev] at hvl
      rw [div_true hp h0]
      have hfv := fv_word (neg := fneg v) hs
      rw [← ev] at hfv
      have hfu := fv_word (neg := fneg u) hr
      rw [← ew] at hfu
      by_cases hr0 : uabs u = 0
      · rw [if_pos hr0]
        have hq := div_zero_word (a := fneg u) (b := fneg v) hs h0
        rw [← ev] at hq
        rw [hr0] at ew hfu
        rw [← ew] at hq
        refine (rdiv_fin d u v 0 (fneg u != fneg v) (fneg v) hu hv hp hvz hvl hq (by decide) 0 ?_ w).mono ?_
        · rw [hfu, rv_zero, sg_zero, sg_zero, Int.zero_mul, Int.zero_mul, Int.zero_mul, Int.zero_mul, Int.sub_self]; rfl
        · rintro e w' ⟨rfl, hW⟩
          refine ⟨?_, hW⟩
          refine congrArg fRet2 ?_
          have e1 : (if fneg v = true then -(0 : Int) else 0) = 0 := by cases fneg v <;> rfl
          rw [e1]
          unfold sideS
          simp only [Int.lt_irrefl, and_false, if_false]
          rw [if_neg (by decide), sgnR_zero]
      · rw [if_neg hr0]
        have hq := div_word (a := fneg u) (b := fneg v) hr hs hr0 h0
        rw [← ev, ← ew] at hq
        have hsp := side_spec ⟨hd1, hd2⟩ (fneg u != fneg v) (restQ (rv (uabs u)) (rv (uabs v))) (hQ (rv (uabs u)) (rv (uabs v))) (eQ (rv (uabs u)) (rv (uabs v)))
        have hqs : qS d (fneg u != fneg v) (rv (uabs u)) (rv (uabs v)) = toldR d (fneg u != fneg v) (hQ (rv (uabs u)) (rv (uabs v))) (restQ (rv (uabs u)) (rv (uabs v))) (eQ (rv (uabs u)) (rv (uabs v))) := by rw [qS]
        rw [hqs, ← hsp]
        rcases Nat.lt_or_ge (r0R (hQ (rv (uabs u)) (rv (uabs v))) (restQ (rv (uabs u)) (rv (uabs v))) (eQ (rv (uabs u)) (rv (uabs v)))) INFR with hlt | hge
        · have hcmp := div_cmp (a := fneg u) (b := fneg v) (rq := nearR (hQ (rv (uabs u)) (rv (uabs v))) (restQ (rv (uabs u)) (rv (uabs v))) (eQ (rv (uabs u)) (rv (uabs v)))) (rv_ne hr0) (rv_ne h0) hlt rfl
          rw [← hcmp]
          refine rdiv_fin d u v _ (fneg u != fneg v) (fneg v) hu hv hp hvz hvl hq ?_ _ ?_ w
          · unfold nearR; rw [Nat.min_eq_left (Nat.le_of_lt hlt)]; exact hlt
          · rw [hfu, hfv]
        · have hn : nearR (hQ (rv (uabs u)) (rv (uabs v))) (restQ (rv (uabs u)) (rv (uabs v))) (eQ (rv (uabs u)) (rv (uabs v))) = INFR := by unfold nearR; exact Nat.min_eq_right hge
          have ha : accR (fneg u != fneg v) (hQ (rv (uabs u)) (rv (uabs v))) (restQ (rv (uabs u)) (rv (uabs v))) (eQ (rv (uabs u)) (rv (uabs v))) = if (fneg u != fneg v) then -1 else 1 := by unfold accR; rw [if_pos hge]
          rw [hn] at hq ⊢
          rw [ha]
          exact rdiv_inf d u v INFR (fneg u != fneg v) hu hv hp hvz hq ⟨hd1, hd2⟩ w
end Go.Proofs.YtfgdmiigmcnmpaaGreatFmt
