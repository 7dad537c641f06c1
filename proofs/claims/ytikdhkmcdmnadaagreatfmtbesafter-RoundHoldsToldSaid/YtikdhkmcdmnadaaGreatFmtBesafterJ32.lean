/- Walks and plain laws of this seat's functions, part 32: G24 G25 G26 G27a. -/
import Derived.Test.YtikdhkmcdmnadaaGreatFmtBesafterJ19
import Derived.Test.YtikdhkmcdmnadaaGreatFmtBesafterJ27
import Derived.Test.YtikdhkmcdmnadaaGreatFmtBesafterJ31
set_option linter.unusedVariables false
set_option linter.unusedSimpArgs false
namespace Go.Proofs.YtikdhkmcdmnadaaGreatFmtBesafter
open Go.RowKit
attribute [local go_sem ↓] Go.wp_at_zero Go.wp_at_succ

/-! ### Float64, told -/
theorem accR_bd (neg rest : Bool) (h : Nat) (e : Int) : -2 ≤ accR neg h rest e ∧ accR neg h rest e ≤ 2 := by
  unfold accR; split
  · split <;> omega
  · split
    · omega
    · split <;> omega
theorem f64_calls (b K N : Nat) (X : Int) (w : World) (hx : FVal w K N b X) (hN : N ≤ 35) (hK : 1074 < K) :
    ∃ (neg : Bool) (r : Nat) (c : Int), r ≤ INFR ∧ (-2 ≤ c ∧ c ≤ 2) ∧ (∀ d : Int, 0 ≤ d → d ≤ 2 → sideS d neg r c = rndS d K X) ∧
      Calls Tryz.prog 47 #[.pointer (some ⟨b, 0, none⟩)] w fun e w' => e = fRetA (wordR neg r) c ∧ Below w.heap.size w w' := by
  obtain ⟨acc, form, neg, v, ex, hb, hv⟩ := hx
  rcases hv with ⟨rfl, rfl⟩ | ⟨rfl, B, m, n, hO, hbl, h0, hn, hz, rfl, hex⟩
  · refine ⟨neg, 0, 0, by decide, by decide, fun d h1 h2 => ?_, (f64_zero b acc ex neg v w hb).mono ?_⟩
    · rw [rndS_zero d K hK]
      unfold sideS
      simp only [Int.lt_irrefl, and_false, if_false]
      rw [if_neg (by decide), sgnR_zero]
    · rintro e w' ⟨rfl, q, rfl⟩
      exact ⟨rfl, below_drewN (Below.refl _ _) q⟩
  · have hm0 : m ≠ 0 := by intro h; subst h; rw [bl_zero] at hbl; omega
    obtain ⟨k0, hk0⟩ : ∃ k, (ex - ((64 * n : Nat) : Int) + K).toNat = k := ⟨_, rfl⟩
    have hk1 : (k0 : Int) = ex - ((64 * n : Nat) : Int) + K := by omega
    rw [hk0]
    obtain ⟨s, hs⟩ : ∃ s, shD K (m * 2 ^ k0) = s := ⟨_, rfl⟩
    have spec : ∀ {h : Nat} {rest : Bool} {e : Int}, m * 2 ^ k0 / 2 ^ (s - 1) = h → restB (m * 2 ^ k0 % 2 ^ (s - 1)) = rest → (s : Int) - K = e → ∀ d : Int, 0 ≤ d → d ≤ 2 → sideS d neg (nearR h rest e) (accR neg h rest e) = rndS d K (sg neg (m * 2 ^ k0)) := by
      intro h rest e h1 h2 h3 d hd0 hd2
      have := (rnd_spec (d := d) (neg := neg) hm0 hK (k := s) hs.symm h1.symm h2.symm).1
      rw [this, h3]
      exact side_spec ⟨hd0, hd2⟩ neg rest h e
    have nle : ∀ {h : Nat} {rest : Bool} {e : Int}, nearR h rest e ≤ INFR := Nat.min_le_right _ _
    rcases Int.lt_or_le ex (-1021) with hlo | hhi
    · rcases Int.lt_trichotomy ex (-1074) with h | h | h
      · obtain ⟨a1, a2, a3⟩ := cut_low hbl h0 hk1 hK (by omega) hs.symm
        refine ⟨neg, nearR 0 true (-1074), accR neg 0 true (-1074), nle, accR_bd _ _ _ _, spec a1 a2 a3, (f64_under b acc ex neg v w hb (by omega)).mono ?_⟩
        rintro e w' ⟨rfl, q, rfl⟩
        refine ⟨?_, below_drewN (Below.refl _ _) q⟩
        cases neg <;> rfl
      · obtain ⟨a1, a2, a3⟩ := cut_num (p := 0) hbl h0 hk1 hK (by omega) hs.symm
        rw [cut_edge hbl h0] at a1
        subst h
        obtain ⟨rest, hrest⟩ : ∃ r, restB (m % 2 ^ (64 * n - 1)) = r := ⟨_, rfl⟩
        rw [show 64 * n - 0 - 1 = 64 * n - 1 from rfl, hrest] at a2
        have a3' : (s : Int) - K = -1074 := by omega
        refine ⟨neg, nearR 1 rest (-1074), accR neg 1 rest (-1074), nle, accR_bd _ _ _ _, spec a1 a2 a3', (f64_edge b n m B acc neg rest v w hb hO hbl h0 (by omega) hrest.symm).mono ?_⟩
        rintro e w' ⟨rfl, q, rfl⟩
        refine ⟨?_, below_drewN (Below.refl _ _) q⟩
        cases neg <;> cases rest <;> rfl
      · obtain ⟨p, hp⟩ : ∃ p : Nat, (p : Int) = ex + 1074 := ⟨(ex + 1074).toNat, by omega⟩
        obtain ⟨a1, a2, a3⟩ := cut_num (p := p) hbl h0 hk1 hK (by omega) hs.symm
        exact ⟨neg, _, _, nle, accR_bd _ _ _ _, spec a1 a2 a3, f64_lo b n m B _ acc ex neg _ v w hb hO hbl h0 (by omega) (by omega) p hp (by omega) rfl rfl⟩
    · obtain ⟨a1, a2, a3⟩ := cut_num (p := 53) hbl h0 hk1 hK (by omega) hs.symm
      exact ⟨neg, _, _, nle, accR_bd _ _ _ _, spec a1 a2 a3, f64_hi b n m B _ acc ex neg _ v w hb hO hbl h0 (by omega) (by omega) rfl rfl⟩
set_option maxHeartbeats 1000000 in
set_option maxRecDepth 100000 in
theorem ftold_calls (d : Int) (b K N : Nat) (X : Int) (w : World) (hx : FVal w K N b X) (hN : N ≤ 35) (hK : 1074 < K) (hd : 0 ≤ d ∧ d ≤ 2) :
    Calls Tryz.prog 35 #[.int .i64 d, .pointer (some ⟨b, 0, none⟩)] w fun e w' => e = fRet2 (rndS d K X) ∧ Below w.heap.size w w' := by
  obtain ⟨neg, r, c, h1, h2, h3, h4⟩ := f64_calls b K N X w hx hN hK
  rw [← h3 d hd.1 hd.2]
  have HF := Lib.hid h4
  have HS := Lib.hid (fun W => side_calls d neg r c hd h1 h2 W)
  have hwc : IntKind.i64.wrap c = c := IntWalk.i64_in _ (by omega)
  obtain ⟨u, hu⟩ : ∃ u, wordR neg r = u := ⟨_, rfl⟩
  obtain ⟨o, ho⟩ : ∃ o, sideS d neg r c = o := ⟨_, rfl⟩
  rw [hu] at HF HS
  rw [ho] at HS ⊢
  clear h1 h2 h3 h4 hx hu ho hd hN hK
  go_enter Tryz.func35, Tryz.ntmps35
  go_wp2_with fail
  refine HF.out.mono ?_
  rintro e w' ⟨rfl, hW⟩
  have HW := Lib.hid hW
  clear hW
  unfold fRetA
  go_wp2_with fail
  refine (HS.out _).mono ?_
  rintro e w2 ⟨rfl, rfl⟩
  unfold fRet2
  go_wp2
  go_ret2
  exact ⟨rfl, HW.out⟩
/-! ### Add -/
theorem FVal.raise {w : World} {K J N b : Nat} {X : Int} (h : FVal w K N b X) : FVal w (K + J) N b (X * ((2 ^ J : Nat) : Int)) := by
  obtain ⟨acc, form, neg, v, ex, hb, hv⟩ := h
  refine ⟨acc, form, neg, v, ex, hb, ?_⟩
  rcases hv with ⟨rfl, rfl⟩ | ⟨rfl, B, m, n, hO, hbl, h0, hn, hz, rfl, hex⟩
  · exact .inl ⟨rfl, Int.zero_mul _⟩
  · refine .inr ⟨rfl, B, m, n, hO, hbl, h0, hn, by omega, ?_, hex⟩
    rw [sg_pow, Nat.mul_assoc, ← Nat.pow_add]
    congr 3
    omega
set_option maxHeartbeats 4000000 in
set_option maxRecDepth 100000 in
theorem addf_zero (bz bx bY K N : Nat) (X Y : Int) (fx fy ax ay ex ey : Int) (nx ny : Bool) (vx vy : Value) (w : World) (hz : Blk w bz 65 (fC 2300 0 0 false (.slice none 0 0) 0)) (hx : Blk w bx 65 (fC 2300 ax fx nx vx ex)) (hy : Blk w bY 65 (fC 2300 ay fy ny vy ey))
    (hnx : bx ≠ bz) (hny : bY ≠ bz) (hN : N ≤ 35) (h : (fx = 0 ∧ X = 0 ∧ fy = 0 ∧ Y = 0) ∨ (fx = 0 ∧ X = 0 ∧ fy = 1 ∧ FMan w K N ny vy ey Y) ∨ (fy = 0 ∧ Y = 0 ∧ fx = 1 ∧ FMan w K N nx vx ex X)) :
    Calls Tryz.prog 37 #[.pointer (some ⟨bz, 0, none⟩), .pointer (some ⟨bx, 0, none⟩), .pointer (some ⟨bY, 0, none⟩)] w fun e w' => e = .returned (.pointer (some ⟨bz, 0, none⟩)) ∧ FVal w' K N bz (X + Y) ∧ Below bz w w' := by
  obtain ⟨x0, x1, x2, x3, x4, x5, x6⟩ := sev hx
  obtain ⟨y0, y1, y2, y3, y4, y5, y6⟩ := sev hy
  obtain ⟨c0, c1, c2, c3, c4, c5, c6⟩ := sev hz
  obtain ⟨f0, f1, f2, f3, f4, f5, f6⟩ := frz hz
  have HZ := Lib.hid hz
  rcases h with ⟨rfl, rfl, rfl, rfl⟩ | ⟨rfl, rfl, rfl, hm⟩ | ⟨rfl, rfl, rfl, hm⟩
  · clear hx hy hz
    cases nx
    all_goals (
      go_enter Tryz.func37, Tryz.ntmps37
      go_wp2
      go_quiet (fail)
      go_wp2
      go_ret
      refine ⟨rfl, ⟨0, 0, _, .slice none 0 0, 0, ((HZ.out.set 2 (.int .i8 0)).set 3 (.int .u8 0)).set 4 _, .inl ⟨rfl, rfl⟩⟩, ?_⟩
      exact (((below_drewN (Below.refl bz w) _).setCell (p := ⟨bz, 2, none⟩) (Nat.le_refl _) _).setCell (p := ⟨bz, 3, none⟩) (Nat.le_refl _) _).setCell (p := ⟨bz, 4, none⟩) (Nat.le_refl _) _)
  · rw [Int.zero_add]
    obtain ⟨B, m, n, hO, hbl, h0, hn, hzz, hX, hex⟩ := hm
    have HS := Lib.hid (fun (W : World) (hW : ∃ q, W = w.drewN q) => set_same bz bY n m B ay ey ny vy W (by obtain ⟨q, rfl⟩ := hW; exact hz) (by obtain ⟨q, rfl⟩ := hW; exact hy) (by obtain ⟨q, rfl⟩ := hW; exact hO) (Ne.symm hny) hbl h0 (by omega) hex)
    have HM : Hid (bl m = 64 * n ∧ 0 < n ∧ n ≤ N ∧ 0 ≤ ey - ((64 * n : Nat) : Int) + K ∧ Y = sg ny (m * 2 ^ (ey - ((64 * n : Nat) : Int) + K).toNat) ∧ (-20000 ≤ ey ∧ ey ≤ 20000)) := ⟨hbl, h0, hn, hzz, hX, hex⟩
    clear hx hy hz hO hbl h0 hn hzz hX hex
    go_enter Tryz.func37, Tryz.ntmps37
    go_wp2
    go_quiet (fail)
    go_wp2_with fail
    refine (HS.out _ ⟨_, rfl⟩).mono ?_
    rintro e w2 ⟨rfl, ⟨v', B', k1, k2⟩, hW⟩
    have HF : Hid (FVal w2 K N bz Y ∧ Below bz w w2) := ⟨⟨0, 1, ny, v', ey, k1, .inr ⟨rfl, B', m, n, k2, HM.out⟩⟩, Below.trans (below_drewN (Below.refl bz w) _) hW⟩
    clear k1 k2 hW
    go_wp2
    go_ret
    exact ⟨rfl, HF.out.1, HF.out.2⟩
  · rw [Int.add_zero]
    obtain ⟨B, m, n, hO, hbl, h0, hn, hzz, hX, hex⟩ := hm
    have HS := Lib.hid (fun (W : World) (hW : ∃ q, W = w.drewN q) => set_same bz bx n m B ax ex nx vx W (by obtain ⟨q, rfl⟩ := hW; exact hz) (by obtain ⟨q, rfl⟩ := hW; exact hx) (by obtain ⟨q, rfl⟩ := hW; exact hO) (Ne.symm hnx) hbl h0 (by omega) hex)
    have HM : Hid (bl m = 64 * n ∧ 0 < n ∧ n ≤ N ∧ 0 ≤ ex - ((64 * n : Nat) : Int) + K ∧ X = sg nx (m * 2 ^ (ex - ((64 * n : Nat) : Int) + K).toNat) ∧ (-20000 ≤ ex ∧ ex ≤ 20000)) := ⟨hbl, h0, hn, hzz, hX, hex⟩
    clear hx hy hz hO hbl h0 hn hzz hX hex
    go_enter Tryz.func37, Tryz.ntmps37
    go_wp2
    go_quiet (fail)
    go_wp2_with fail
    refine (HS.out _ ⟨_, rfl⟩).mono ?_
    rintro e w2 ⟨rfl, ⟨v', B', k1, k2⟩, hW⟩
    have HF : Hid (FVal w2 K N bz X ∧ Below bz w w2) := ⟨⟨0, 1, nx, v', ex, k1, .inr ⟨rfl, B', m, n, k2, HM.out⟩⟩, Below.trans (below_drewN (Below.refl bz w) _) hW⟩
    clear k1 k2 hW
    go_wp2
    go_ret
    exact ⟨rfl, HF.out.1, HF.out.2⟩
end Go.Proofs.YtikdhkmcdmnadaaGreatFmtBesafter

namespace Go.Proofs.YtikdhkmcdmnadaaGreatFmtBesafter
open Go.RowKit
attribute [local go_sem ↓] Go.wp_at_zero Go.wp_at_succ

/-! ### round.Add, Sub, Mul -/
theorem addf_calls (bz bx bY K L : Nat) (X Y : Int) (w : World) (hz : Blk w bz 65 (fC 2300 0 0 false (.slice none 0 0) 0)) (hx : FVal w K 1 bx X) (hy : FVal w K 1 bY Y) (hnx : bx ≠ bz) (hny : bY ≠ bz) (hX : X.natAbs < 2 ^ L) (hY : Y.natAbs < 2 ^ L) (hL : L ≤ 2239) (hK : K ≤ 4000) :
    Calls Tryz.prog 37 #[.pointer (some ⟨bz, 0, none⟩), .pointer (some ⟨bx, 0, none⟩), .pointer (some ⟨bY, 0, none⟩)] w fun e w' => e = .returned (.pointer (some ⟨bz, 0, none⟩)) ∧ FVal w' (K + 64) 35 bz ((X + Y) * ((2 ^ 64 : Nat) : Int)) ∧ Below bz w w' := by
  obtain ⟨ax, fx, nx, vx, ex, bxb, hvx⟩ := hx
  obtain ⟨ay, fy, ny, vy, ey, byb, hvy⟩ := hy
  have up : ∀ e w', (e = Ending.returned (.pointer (some ⟨bz, 0, none⟩)) ∧ FVal w' K 1 bz (X + Y) ∧ Below bz w w') → (e = Ending.returned (.pointer (some ⟨bz, 0, none⟩)) ∧ FVal w' (K + 64) 35 bz ((X + Y) * ((2 ^ 64 : Nat) : Int)) ∧ Below bz w w') := fun e w' ⟨h1, h2, h3⟩ => ⟨h1, (h2.raise (J := 64)).more (by decide), h3⟩
  rcases hvx with ⟨rfl, rfl⟩ | ⟨rfl, hmx⟩
  · rcases hvy with ⟨rfl, rfl⟩ | ⟨rfl, hmy⟩
    · exact (addf_zero bz bx bY K 1 0 0 _ _ ax ay ex ey nx ny vx vy w hz bxb byb hnx hny (by decide) (.inl ⟨rfl, rfl, rfl, rfl⟩)).mono up
    · exact (addf_zero bz bx bY K 1 0 Y _ _ ax ay ex ey nx ny vx vy w hz bxb byb hnx hny (by decide) (.inr (.inl ⟨rfl, rfl, rfl, hmy⟩))).mono up
  · rcases hvy with ⟨rfl, rfl⟩ | ⟨rfl, hmy⟩
    · exact (addf_zero bz bx bY K 1 X 0 _ _ ax ay ex ey nx ny vx vy w hz bxb byb hnx hny (by decide) (.inr (.inr ⟨rfl, rfl, rfl, hmx⟩))).mono up
    · obtain ⟨B1, m1, n1, o1, l1, p1, q1, z1, rfl, e1⟩ := hmx
      obtain ⟨B2, m2, n2, o2, l2, p2, q2, z2, rfl, e2⟩ := hmy
      have g1 := ex_bd l1 p1 z1 nx hX
      have g2 := ex_bd l2 p2 z2 ny hY
      rw [sg_abs] at hX hY
      have hbig : ∀ S M1 M2 : Nat, ∀ k : Nat, S * 2 ^ k = M1 + M2 → M1 < 2 ^ L → M2 < 2 ^ L → bl S ≤ 2240 := by
        intro S M1 M2 k h1 h2 h3
        have h4 : S ≤ S * 2 ^ k := Nat.le_mul_of_pos_right _ (Nat.pow_pos (by decide))
        have h5 : S < 2 ^ (L + 1) := by rw [Nat.pow_succ]; omega
        exact Nat.le_trans (bl_le_of_lt h5) (by omega)
      refine (addf_fin bz bx bY m1 m2 n1 n2 B1 B2 K ax ay ex ey nx ny vx vy w hz bxb byb hnx hny o1 o2 l1 l2 p1 p2 (by omega) (by omega) (by omega) (by omega) z1 z2 ?_ ?_)
      · exact hbig _ _ _ _ (sumM_mag z1 z2) hX hY
      · exact hbig _ _ _ _ (sumM_mag z2 z1) hY hX
set_option exponentiation.threshold 3000 in
theorem rv_bd {r : Nat} (h : r < INFR) : rv r < 2 ^ 2098 := by
  have h1 : rv r < rv INFR := rv_lt h
  rw [rv_inf] at h1
  have e : 9007199254740992 * P2045 = 2 ^ 2098 := by
    unfold P2045
    rw [show (9007199254740992 : Nat) = 2 ^ 53 from by decide, ← Nat.pow_add]
  omega
theorem fv_bd {u : Nat} (hu : u < 18446744073709551616) (hf : fin u = true) : (fv u).natAbs < 2 ^ 2098 := by
  obtain ⟨h1, h2⟩ := word_of hu hf
  rw [h1, fv_word h2, sg_abs]
  exact rv_bd h2
/-- what Add, Sub, Mul tell (values in parts of 2^-2148) -/
def exS (c : Int) (u v : Nat) : Int := if c = 1 then (fv u + fv v) * ((2 ^ 1074 : Nat) : Int) else if c = 2 then (fv u - fv v) * ((2 ^ 1074 : Nat) : Int) else fv u * fv v
def askS (c d : Int) (u v : Nat) : Option Nat := if pairB d u v then rndS d 2148 (exS c u v) else none
theorem pairB_true {d : Int} {u v : Nat} (h : pairB d u v = true) : fin u = true ∧ fin v = true ∧ 0 ≤ d ∧ d ≤ 2 := by
  unfold pairB at h; simp at h; exact ⟨h.1.1, h.1.2, h.2.1, h.2.2⟩
theorem ask_false {c d : Int} {u v : Nat} (h : pairB d u v = false) : askS c d u v = none := by unfold askS; rw [h, if_neg (by decide)]
theorem ask_true {c d : Int} {u v : Nat} (h : pairB d u v = true) : askS c d u v = rndS d 2148 (exS c u v) := by unfold askS; rw [if_pos h]
theorem exS_1 (u v : Nat) : exS 1 u v = (fv u + fv v) * ((2 ^ 1074 : Nat) : Int) := by unfold exS; rw [if_pos rfl]
theorem exS_2 (u v : Nat) : exS 2 u v = (fv u - fv v) * ((2 ^ 1074 : Nat) : Int) := by unfold exS; rw [if_neg (by decide), if_pos rfl]
theorem exS_3 (u v : Nat) : exS 3 u v = fv u * fv v := by unfold exS; rw [if_neg (by decide), if_neg (by decide)]
theorem pow_int (a b : Nat) : ((2 ^ a : Nat) : Int) * ((2 ^ b : Nat) : Int) = ((2 ^ (a + b) : Nat) : Int) := by rw [← Int.natCast_mul, ← Nat.pow_add]
set_option exponentiation.threshold 3000 in
theorem add_val (d : Int) (x y : Int) : rndS d 1204 ((x * ((2 ^ 66 : Nat) : Int) + y * ((2 ^ 66 : Nat) : Int)) * ((2 ^ 64 : Nat) : Int)) = rndS d 2148 ((x + y) * ((2 ^ 1074 : Nat) : Int)) := by
  have h := rndS_scale d (K := 1204) (by decide) 944 ((x * ((2 ^ 66 : Nat) : Int) + y * ((2 ^ 66 : Nat) : Int)) * ((2 ^ 64 : Nat) : Int))
  rw [← h, ← Int.add_mul, Int.mul_assoc, Int.mul_assoc, pow_int 64 944, pow_int 66]
set_option exponentiation.threshold 3000 in
theorem mul_val (d : Int) (x y : Int) : rndS d 2344 (x * ((2 ^ 66 : Nat) : Int) * (y * ((2 ^ 66 : Nat) : Int)) * ((2 ^ 64 : Nat) : Int)) = rndS d 2148 (x * y) := by
  have h := rndS_scale d (K := 2148) (by decide) 196 (x * y)
  rw [← h]
  refine congrArg (rndS d 2344) ?_
  rw [Int.mul_assoc x, Int.mul_left_comm _ y, ← Int.mul_assoc x y, Int.mul_assoc (x * y), pow_int 66 66, pow_int 132 64]
set_option exponentiation.threshold 3000 in
theorem scale_bd {x : Int} (hx : x.natAbs < 2 ^ 2098) : (x * ((2 ^ 66 : Nat) : Int)).natAbs < 2 ^ 2164 := by
  rw [Int.natAbs_mul, Int.natAbs_natCast]
  have h := Nat.mul_lt_mul_of_pos_right hx (Nat.pow_pos (n := 66) (a := 2) (by decide))
  rwa [← Nat.pow_add] at h
theorem exact66 (u : Nat) (hu : u < 18446744073709551616) (hf : fin u = true) (w : World) :
    Calls Tryz.prog 38 #[.float .f64 u] w fun e w' => e = .returned (.pointer (some ⟨w.heap.size, 0, none⟩)) ∧ FVal w' 1140 1 w.heap.size (fv u * ((2 ^ 66 : Nat) : Int)) ∧ Below w.heap.size w w' := exact_calls u 1140 hu hf (by decide) w
set_option maxHeartbeats 4000000 in
set_option maxRecDepth 100000 in
theorem radd_calls (d : Int) (u v : Nat) (hu : u < 18446744073709551616) (hv : v < 18446744073709551616) (w : World) :
    Calls Tryz.prog 17 #[.int .i64 d, .float .f64 u, .float .f64 v] w fun e w' => e = fRet2 (askS 1 d u v) ∧ Below w.heap.size w w' := by
  have HP := Lib.hid (fun W => pair_calls d u v hu hv W)
  obtain ⟨b, hb⟩ : ∃ b, pairB d u v = b := ⟨_, rfl⟩
  rw [hb] at HP
  cases b
  · have HR : Hid (askS 1 d u v = none) := ask_false hb
    clear hb hu hv
    go_enter Tryz.func17, Tryz.ntmps17
    go_wp2_with fail
    refine (HP.out _).mono ?_
    rintro e w' ⟨rfl, rfl⟩
    go_wp2
    go_ret2
    exact ⟨ret2_none HR.out, Below.refl _ _⟩
  · obtain ⟨fu, fv', hd1, hd2⟩ := pairB_true hb
    have hbu := fv_bd hu fu
    have hbv := fv_bd hv fv'
    have HEU := Lib.hid (fun W => exact66 u hu fu W)
    have HEV := Lib.hid (fun W => exact66 v hv fv' W)
    have HSP := Lib.hid (fun W => setprec_calls w.heap.size W)
    have HAD := Lib.hid (fun W b1 b2 (hz : Blk W w.heap.size 65 (fC 2300 0 0 false (.slice none 0 0) 0)) (hx : FVal W 1140 1 b1 (fv u * ((2 ^ 66 : Nat) : Int))) (hy : FVal W 1140 1 b2 (fv v * ((2 ^ 66 : Nat) : Int))) (h1 : b1 ≠ w.heap.size) (h2 : b2 ≠ w.heap.size) => addf_calls w.heap.size b1 b2 1140 2164 _ _ W hz hx hy h1 h2 (scale_bd hbu) (scale_bd hbv) (by decide) (by decide))
    have HT := Lib.hid (fun W X (hx : FVal W 1204 35 w.heap.size X) => ftold_calls d w.heap.size 1204 35 X W hx (by decide) (by decide) ⟨hd1, hd2⟩)
    have HVAL : Hid (rndS d 1204 ((fv u * ((2 ^ 66 : Nat) : Int) + fv v * ((2 ^ 66 : Nat) : Int)) * ((2 ^ 64 : Nat) : Int)) = askS 1 d u v) := by
      rw [Hid, ask_true hb, exS_1]; exact add_val d _ _
    have HN := Lib.hid (float_new w)
    have HW := Lib.hid (below_new (Below.refl w.heap.size w) (.cells #[.int .u32 0, .int .u8 0, .int .i8 0, .int .u8 0, .bool false, .slice none 0 0, .int .i32 0] 65))
    obtain ⟨o, ho⟩ : ∃ o, askS 1 d u v = o := ⟨_, rfl⟩
    rw [ho] at HVAL ⊢
    clear hb hu hv fu fv' hd1 hd2 hbu hbv ho
    go_enter Tryz.func17, Tryz.ntmps17
    go_wp2_with fail
    refine (HP.out _).mono ?_
    rintro e w' ⟨rfl, rfl⟩
    go_wp2_with fail
    refine (HSP.out _ HN.out).mono ?_
    rintro e w1 ⟨rfl, hz1, hW1⟩
    have H1 := Lib.hid (And.intro hz1 (HW.out.trans hW1))
    clear hz1 hW1
    go_wp2_with fail
    refine (HEU.out _).mono ?_
    rintro e w2 ⟨rfl, hx2, hW2⟩
    have H2 := Lib.hid (And.intro hx2 hW2)
    clear hx2 hW2
    go_wp2_with fail
    refine (HEV.out _).mono ?_
    rintro e w3 ⟨rfl, hy3, hW3⟩
    have H3 := Lib.hid (And.intro hy3 hW3)
    clear hy3 hW3
    go_wp2_with fail
    have hs1 : w.heap.size < w1.heap.size := H1.out.1.lt
    have hs2 : w1.heap.size < w2.heap.size := H2.out.1.lt
    refine (HAD.out w3 w1.heap.size w2.heap.size ((H1.out.1.below' H2.out.2).below' H3.out.2) (H2.out.1.keep H3.out.2) H3.out.1 (by omega) (by omega)).mono ?_
    rintro e w4 ⟨rfl, hf, hW4⟩
    have H4 : Hid (FVal w4 1204 35 w.heap.size ((fv u * ((2 ^ 66 : Nat) : Int) + fv v * ((2 ^ 66 : Nat) : Int)) * ((2 ^ 64 : Nat) : Int)) ∧ Below w.heap.size w w4) := ⟨hf, ((H1.out.2.trans (H2.out.2.mono (Nat.le_of_lt hs1))).trans (H3.out.2.mono (by omega))).trans hW4⟩
    clear hf hW4
    go_wp2_with fail
    have HT4 := Lib.hid (HT.out w4 _ H4.out.1)
    rw [HVAL.out] at HT4
    refine HT4.out.mono ?_
    rintro e w5 ⟨rfl, hW5⟩
    have H5 := Lib.hid (H4.out.2.trans (hW5.mono H4.out.2.size))
    clear hW5 hs1 hs2
    unfold fRet2
    go_wp2
    go_ret2
    exact ⟨rfl, H5.out⟩
end Go.Proofs.YtikdhkmcdmnadaaGreatFmtBesafter

namespace Go.Proofs.YtikdhkmcdmnadaaGreatFmtBesafter
open Go.RowKit
attribute [local go_sem ↓] Go.wp_at_zero Go.wp_at_succ

/-! ### round.Mul, Sub -/
set_option maxHeartbeats 4000000 in
set_option maxRecDepth 100000 in
theorem rmul_calls (d : Int) (u v : Nat) (hu : u < 18446744073709551616) (hv : v < 18446744073709551616) (w : World) :
    Calls Tryz.prog 19 #[.int .i64 d, .float .f64 u, .float .f64 v] w fun e w' => e = fRet2 (askS 3 d u v) ∧ Below w.heap.size w w' := by
  have HP := Lib.hid (fun W => pair_calls d u v hu hv W)
  obtain ⟨b, hb⟩ : ∃ b, pairB d u v = b := ⟨_, rfl⟩
  rw [hb] at HP
  cases b
  · have HR : Hid (askS 3 d u v = none) := ask_false hb
    clear hb hu hv
    go_enter Tryz.func19, Tryz.ntmps19
    go_wp2_with fail
    refine (HP.out _).mono ?_
    rintro e w' ⟨rfl, rfl⟩
    go_wp2
    go_ret2
    exact ⟨ret2_none HR.out, Below.refl _ _⟩
  · obtain ⟨fu, fv', hd1, hd2⟩ := pairB_true hb
    have hbu := fv_bd hu fu
    have hbv := fv_bd hv fv'
    have HEU := Lib.hid (fun W => exact66 u hu fu W)
    have HEV := Lib.hid (fun W => exact66 v hv fv' W)
    have HSP := Lib.hid (fun W => setprec_calls w.heap.size W)
    have HAD := Lib.hid (fun W b1 b2 (hz : Blk W w.heap.size 65 (fC 2300 0 0 false (.slice none 0 0) 0)) (hx : FVal W 1140 1 b1 (fv u * ((2 ^ 66 : Nat) : Int))) (hy : FVal W 1140 1 b2 (fv v * ((2 ^ 66 : Nat) : Int))) (h1 : b1 ≠ w.heap.size) (h2 : b2 ≠ w.heap.size) (h3 : b1 ≠ b2) => mulf_calls w.heap.size b1 b2 1140 1140 2164 _ _ W hz hx hy h3 h1 h2 (by decide) (by decide) (scale_bd hbu) (scale_bd hbv) (by decide))
    have HT := Lib.hid (fun W X (hx : FVal W 2344 2 w.heap.size X) => ftold_calls d w.heap.size 2344 2 X W hx (by decide) (by decide) ⟨hd1, hd2⟩)
    have HVAL : Hid (rndS d 2344 (fv u * ((2 ^ 66 : Nat) : Int) * (fv v * ((2 ^ 66 : Nat) : Int)) * ((2 ^ 64 : Nat) : Int)) = askS 3 d u v) := by
      rw [Hid, ask_true hb, exS_3]; exact mul_val d _ _
    have HN := Lib.hid (float_new w)
    have HW := Lib.hid (below_new (Below.refl w.heap.size w) (.cells #[.int .u32 0, .int .u8 0, .int .i8 0, .int .u8 0, .bool false, .slice none 0 0, .int .i32 0] 65))
    obtain ⟨o, ho⟩ : ∃ o, askS 3 d u v = o := ⟨_, rfl⟩
    rw [ho] at HVAL ⊢
    clear hb hu hv fu fv' hd1 hd2 hbu hbv ho
    go_enter Tryz.func19, Tryz.ntmps19
    go_wp2_with fail
    refine (HP.out _).mono ?_
    rintro e w' ⟨rfl, rfl⟩
    go_wp2_with fail
    refine (HSP.out _ HN.out).mono ?_
    rintro e w1 ⟨rfl, hz1, hW1⟩
    have H1 := Lib.hid (And.intro hz1 (HW.out.trans hW1))
    clear hz1 hW1
    go_wp2_with fail
    refine (HEU.out _).mono ?_
    rintro e w2 ⟨rfl, hx2, hW2⟩
    have H2 := Lib.hid (And.intro hx2 hW2)
    clear hx2 hW2
    go_wp2_with fail
    refine (HEV.out _).mono ?_
    rintro e w3 ⟨rfl, hy3, hW3⟩
    have H3 := Lib.hid (And.intro hy3 hW3)
    clear hy3 hW3
    go_wp2_with fail
    have hs1 : w.heap.size < w1.heap.size := H1.out.1.lt
    have hs2 : w1.heap.size < w2.heap.size := H2.out.1.lt
    refine (HAD.out w3 w1.heap.size w2.heap.size ((H1.out.1.below' H2.out.2).below' H3.out.2) (H2.out.1.keep H3.out.2) H3.out.1 (by omega) (by omega) (by omega)).mono ?_
    rintro e w4 ⟨rfl, hf, hW4⟩
    have H4 : Hid (FVal w4 2344 2 w.heap.size (fv u * ((2 ^ 66 : Nat) : Int) * (fv v * ((2 ^ 66 : Nat) : Int)) * ((2 ^ 64 : Nat) : Int)) ∧ Below w.heap.size w w4) := ⟨hf, ((H1.out.2.trans (H2.out.2.mono (Nat.le_of_lt hs1))).trans (H3.out.2.mono (by omega))).trans hW4⟩
    clear hf hW4
    go_wp2_with fail
    have HT4 := Lib.hid (HT.out w4 _ H4.out.1)
    rw [HVAL.out] at HT4
    refine HT4.out.mono ?_
    rintro e w5 ⟨rfl, hW5⟩
    have H5 := Lib.hid (H4.out.2.trans (hW5.mono H4.out.2.size))
    clear hW5 hs1 hs2
    unfold fRet2
    go_wp2
    go_ret2
    exact ⟨rfl, H5.out⟩
theorem fv_uneg {v : Nat} (hv : v < 18446744073709551616) (hf : fin v = true) : fv (uneg v) = -fv v ∧ fin (uneg v) = true ∧ uneg v < 18446744073709551616 := by
  obtain ⟨h1, h2⟩ := word_of hv hf
  obtain ⟨n, hn⟩ : ∃ n, fneg v = n := ⟨_, rfl⟩
  obtain ⟨r, hr⟩ : ∃ r, uabs v = r := ⟨_, rfl⟩
  rw [hn, hr] at h1
  rw [hr] at h2
  subst h1
  have hi : INFR < 9223372036854775808 := by decide
  rw [neg_word n h2, fv_word h2, fv_word h2]
  exact ⟨by cases n <;> simp [sg], word_fin h2, word_lt (by omega)⟩
theorem uneg_lt {v : Nat} (hv : v < 18446744073709551616) : uneg v < 18446744073709551616 := by
  unfold uneg; exact Nat.xor_lt_two_pow (n := 64) hv (by decide)
theorem uneg_uneg (v : Nat) : uneg (uneg v) = v := by unfold uneg; rw [Nat.xor_assoc, Nat.xor_self, Nat.xor_zero]
theorem fin_uneg {v : Nat} (hv : v < 18446744073709551616) : fin (uneg v) = fin v := by
  rcases h : fin v with _ | _
  · rcases h2 : fin (uneg v) with _ | _
    · rfl
    · have := (fv_uneg (uneg_lt hv) h2).2.1
      rw [uneg_uneg, h] at this; exact this.symm ▸ rfl
  · exact (fv_uneg hv h).2.1
theorem ask_sub (d : Int) (u v : Nat) (hv : v < 18446744073709551616) : askS 1 d u (uneg v) = askS 2 d u v := by
  have hp : pairB d u (uneg v) = pairB d u v := by unfold pairB; rw [fin_uneg hv]
  rcases h : pairB d u v with _ | _
  · rw [ask_false h, ask_false (hp.trans h)]
  · rw [ask_true h, ask_true (hp.trans h), exS_1, exS_2, (fv_uneg hv (pairB_true h).2.1).1]; rfl
theorem rsub_calls (d : Int) (u v : Nat) (hu : u < 18446744073709551616) (hv : v < 18446744073709551616) (w : World) :
    Calls Tryz.prog 18 #[.int .i64 d, .float .f64 u, .float .f64 v] w fun e w' => e = fRet2 (askS 2 d u v) ∧ Below w.heap.size w w' := by
  have HA := Lib.hid (fun W => radd_calls d u (uneg v) hu (uneg_lt hv) W)
  rw [ask_sub d u v hv] at HA
  have hng : ∀ W, (Op.unary .neg (.float .f64 v)).run Tryz.prog W = .ok (.float .f64 (uneg v)) W := fun W => by rfl
  obtain ⟨v', hv'⟩ : ∃ x, uneg v = x := ⟨_, rfl⟩
  rw [hv'] at HA hng
  clear hu hv hv'
  go_enter Tryz.func18, Tryz.ntmps18
  go_wp2_with fail
  refine (HA.out _).mono ?_
  rintro e w' ⟨rfl, hW⟩
  have HW := Lib.hid hW
  clear hW
  unfold fRet2
  go_wp2
  go_ret2
  exact ⟨rfl, HW.out⟩
end Go.Proofs.YtikdhkmcdmnadaaGreatFmtBesafter

namespace Go.Proofs.YtikdhkmcdmnadaaGreatFmtBesafter
open Go.RowKit
attribute [local go_sem ↓] Go.wp_at_zero Go.wp_at_succ

/-! ### round.Div -/
theorem run_fquo (ty : Nat) {u v s : Nat} (h : Ieee.double.div u v = some s) (W : World) : (binOp .quo ty (.float .f64 u) (.float .f64 v)).run Tryz.prog W = .ok (.float .f64 s) W := by
  have h' : FloatKind.f64.format.div u v = some s := h
  simp [binOp, Op.floatArith, h']
def divS (d : Int) (u v : Nat) : Option Nat := if pairB d u v && decide (uabs v ≠ 0) then (if uabs u = 0 then some 0 else qS d (fneg u != fneg v) (rv (uabs u)) (rv (uabs v))) else none
theorem sign_four (a b : Bool) (x y : Nat) (c : Int) (hc : 0 < c) : (if b then -(Int.sign ((sg a x - sg a y) * c)) else Int.sign ((sg a x - sg a y) * c)) = Int.sign (sg (a != b) x - sg (a != b) y) := by
  rw [Int.sign_mul, Int.sign_eq_one_of_pos hc, Int.mul_one]
  cases b
  · rw [if_neg (by decide)]; cases a <;> rfl
  · rw [if_pos rfl, ← Int.sign_neg]
    refine congrArg Int.sign ?_
    cases a
    · show -((x : Int) - (y : Int)) = -(x : Int) - -(y : Int); omega
    · show -(-(x : Int) - -(y : Int)) = (x : Int) - (y : Int); omega
theorem div_alg (a b : Bool) (Q B A : Nat) (c1 c2 c3 c4 : Int) (P : Nat) (h1 : c1 * c1 * c2 = c4) (h2 : (P : Int) * c4 = c3) :
    sg (a != b) Q * c1 * (sg b B * c1) * c2 - sg a A * c3 = (sg a (Q * B) - sg a (A * P)) * c4 := by
  have e1 : sg (a != b) Q * c1 * (sg b B * c1) * c2 = sg a (Q * B) * c4 := by
    have h3 : sg (a != b) Q * sg b B = sg a (Q * B) := by rw [sg_times]; cases a <;> cases b <;> rfl
    rw [← h3, ← h1]
    simp only [Int.mul_assoc, Int.mul_left_comm]
  have e2 : sg a A * c3 = sg a (A * P) * c4 := by rw [← h2, ← sg_pow, Int.mul_assoc]
  rw [e1, e2, Int.sub_mul]
theorem pow_pos_int (n : Nat) : (0 : Int) < ((2 ^ n : Nat) : Int) := Int.natCast_pos.2 (Nat.pow_pos (by decide))
set_option exponentiation.threshold 3000 in
theorem c_pows : ((2 ^ 66 : Nat) : Int) * ((2 ^ 66 : Nat) : Int) * ((2 ^ 64 : Nat) : Int) = ((2 ^ 196 : Nat) : Int) ∧ ((2 ^ 1074 : Nat) : Int) * ((2 ^ 196 : Nat) : Int) = ((2 ^ 1270 : Nat) : Int) := by
  constructor
  · rw [pow_int 66 66, pow_int]
  · rw [pow_int]
theorem div_cmp {a b : Bool} {r s rq : Nat} (hA : rv r ≠ 0) (hB : rv s ≠ 0) (hlt : r0R (hQ (rv r) (rv s)) (restQ (rv r) (rv s)) (eQ (rv r) (rv s)) < INFR) (hq : rq = nearR (hQ (rv r) (rv s)) (restQ (rv r) (rv s)) (eQ (rv r) (rv s))) :
    (if b then -(Int.sign (sg (a != b) (rv rq) * ((2 ^ 66 : Nat) : Int) * (sg b (rv s) * ((2 ^ 66 : Nat) : Int)) * ((2 ^ 64 : Nat) : Int) - sg a (rv r) * ((2 ^ 1270 : Nat) : Int))) else Int.sign (sg (a != b) (rv rq) * ((2 ^ 66 : Nat) : Int) * (sg b (rv s) * ((2 ^ 66 : Nat) : Int)) * ((2 ^ 64 : Nat) : Int) - sg a (rv r) * ((2 ^ 1270 : Nat) : Int)))
      = accR (a != b) (hQ (rv r) (rv s)) (restQ (rv r) (rv s)) (eQ (rv r) (rv s)) := by
  have h := div_acc hA hB (a != b) hlt
  rw [← hq] at h
  rw [h]
  obtain ⟨p1, p2⟩ := c_pows
  have p3 := pow_pos_int 196
  generalize ((2 ^ 66 : Nat) : Int) = c1 at *
  generalize ((2 ^ 64 : Nat) : Int) = c2 at *
  generalize ((2 ^ 1270 : Nat) : Int) = c3 at *
  generalize ((2 ^ 196 : Nat) : Int) = c4 at *
  generalize (2 ^ 1074 : Nat) = P at *
  rw [div_alg a b _ _ _ c1 c2 c3 c4 P p1 p2]
  exact sign_four a b _ _ c4 p3
theorem order_zero {b : Bool} {s : Nat} (hs : s ≤ INFR) : Ieee.double.order (wordR b s) 0 = some (compare (sval b s) 0) := by
  have := order_word (a := b) (b := false) (r := s) (s := 0) hs (by decide)
  exact this
theorem eq_zero_f {b : Bool} {s : Nat} (hs : s ≤ INFR) : (FloatKind.f64.format.order (wordR b s) 0 == some .eq) = decide (s = 0) := by
  show (Ieee.double.order (wordR b s) 0 == some .eq) = _
  rw [order_zero hs]
  by_cases h : s = 0
  · subst h; cases b <;> rfl
  · rw [decide_eq_false h]
    cases b
    · rw [Int.compare_eq_gt.2 (by simp only [sval, Bool.false_eq_true, if_false]; omega)]; rfl
    · rw [Int.compare_eq_lt.2 (by simp only [sval, if_true]; omega)]; rfl
theorem lt_zero_f {b : Bool} {s : Nat} (hs : s ≤ INFR) (h0 : s ≠ 0) : (FloatKind.f64.format.order (wordR b s) 0 == some .lt) = b := by
  show (Ieee.double.order (wordR b s) 0 == some .lt) = _
  rw [order_zero hs]
  cases b
  · rw [Int.compare_eq_gt.2 (by simp only [sval, Bool.false_eq_true, if_false]; omega)]; rfl
  · rw [Int.compare_eq_lt.2 (by simp only [sval, if_true]; omega)]; rfl
end Go.Proofs.YtikdhkmcdmnadaaGreatFmtBesafter
