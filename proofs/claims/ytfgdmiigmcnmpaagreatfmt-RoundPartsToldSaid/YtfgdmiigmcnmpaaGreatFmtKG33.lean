import Derived.Test.YtfgdmiigmcnmpaaGreatFmtJ28
import Derived.Test.YtfgdmiigmcnmpaaGreatFmtJ37
set_option linter.unusedVariables false
set_option linter.unusedSimpArgs false
namespace Go.Proofs.YtfgdmiigmcnmpaaGreatFmt
open Go.RowKit
attribute [local go_sem ↓] Go.wp_at_zero Go.wp_at_succ

/-! ### big.Float.Sub (as Add: G21, G24) -/
set_option maxHeartbeats 4000000 in
set_option maxRecDepth 100000 in
theorem subf_fin (bz bx bY m1 m2 n1 n2 B1 B2 K : Nat) (ax ay ex ey : Int) (nx ny : Bool) (vx vy : Value) (w : World) (hz : Blk w bz 64 (fC 2300 0 0 false (.slice none 0 0) 0)) (hx : Blk w bx 64 (fC 2300 ax 1 nx vx ex)) (hy : Blk w bY 64 (fC 2300 ay 1 ny vy ey))
    (hnx : bx ≠ bz) (hny : bY ≠ bz) (ox : OwnN w B1 m1 vx) (oy : OwnN w B2 m2 vy) (l1 : bl m1 = 64 * n1) (l2 : bl m2 = 64 * n2) (p1 : 0 < n1) (p2 : 0 < n2) (q1 : n1 ≤ 35) (q2 : n2 ≤ 35) (he1 : -9000 ≤ ex ∧ ex ≤ 9000) (he2 : -9000 ≤ ey ∧ ey ≤ 9000)
    (z1 : 0 ≤ ex - ((64 * n1 : Nat) : Int) + K) (z2 : 0 ≤ ey - ((64 * n2 : Nat) : Int) + K) (hS : bl (sumM m1 m2 (ex - ((64 * n1 : Nat) : Int)) (ey - ((64 * n2 : Nat) : Int))) ≤ 2240) (hS' : bl (sumM m2 m1 (ey - ((64 * n2 : Nat) : Int)) (ex - ((64 * n1 : Nat) : Int))) ≤ 2240) :
    Calls Tryz.prog 82 #[.pointer (some ⟨bz, 0, none⟩), .pointer (some ⟨bx, 0, none⟩), .pointer (some ⟨bY, 0, none⟩)] w fun e w' => e = .returned (.pointer (some ⟨bz, 0, none⟩)) ∧
      FVal w' (K + 64) 35 bz ((sg nx (m1 * 2 ^ (ex - ((64 * n1 : Nat) : Int) + K).toNat) - sg ny (m2 * 2 ^ (ey - ((64 * n2 : Nat) : Int) + K).toNat)) * ((2 ^ 64 : Nat) : Int)) ∧ Below bz w w' := by
  obtain ⟨x0, x1, x2, x3, x4, x5, x6⟩ := sev hx
  obtain ⟨y0, y1, y2, y3, y4, y5, y6⟩ := sev hy
  obtain ⟨c0, c1, c2, c3, c4, c5, c6⟩ := sev hz
  obtain ⟨f0, f1, f2, f3, f4, f5, f6⟩ := frz hz
  have hxy : XY bx bY (fC 2300 ax 1 nx vx ex) (fC 2300 ay 1 ny vy ey) B1 B2 m1 m2 vx vy (w.setCell ⟨bz, 4, none⟩ (.bool nx)) := XY.set ⟨hx, hy, ox, oy⟩ hz hnx hny 4 _
  have hz1 := hz.set 4 (.bool nx)
  have hW1 := (Below.refl bz w).setCell (p := ⟨bz, 4, none⟩) (Nat.le_refl _) (.bool nx)
  obtain ⟨M1, hM1⟩ : ∃ M, m1 * 2 ^ (ex - ((64 * n1 : Nat) : Int) + K).toNat = M := ⟨_, rfl⟩
  obtain ⟨M2, hM2⟩ : ∃ M, m2 * 2 ^ (ey - ((64 * n2 : Nat) : Int) + K).toNat = M := ⟨_, rfl⟩
  rw [hM1, hM2]
  have HU := Lib.hid (uadd_fv bz bx bY m1 m2 n1 n2 B1 B2 K ax ay ex ey nx nx ny vx vy _ hz1 hxy.x hxy.y hnx hny hxy.ox hxy.oy l1 l2 p1 p2 q1 q2 he1 he2 z1 z2 hS)
  have HC := Lib.hid (ucmp_calls bx bY K m1 m2 n1 n2 B1 B2 vx vy ax ay ex ey 1 1 nx ny _ hxy.x hxy.y hxy.ox hxy.oy l1 p1 z1 l2 p2 z2)
  have HS1 := Lib.hid (fun (W : World) (hW : Below (w.setCell ⟨bz, 4, none⟩ (.bool nx)).heap.size (w.setCell ⟨bz, 4, none⟩ (.bool nx)) W) (hle : M2 ≤ M1) => usub_fv bz bx bY m1 m2 n1 n2 B1 B2 K ax ay ex ey nx nx ny vx vy W (hz1.below' hW) (hxy.keep hW).x (hxy.keep hW).y hnx hny (hxy.keep hW).ox (hxy.keep hW).oy l1 l2 p1 p2 q1 q2 he1 he2 z1 z2 hS (by rw [hM1, hM2]; exact hle))
  have HS2 := Lib.hid (fun (W : World) (hW : Below (w.setCell ⟨bz, 4, none⟩ (.bool nx)).heap.size (w.setCell ⟨bz, 4, none⟩ (.bool nx)) W) (hle : M1 ≤ M2) => usub_fv bz bY bx m2 m1 n2 n1 B2 B1 K ay ax ey ex (!nx) ny nx vy vx (W.setCell ⟨bz, 4, none⟩ (.bool (!nx))) ((hz1.below' hW).set 4 _) (((hxy.keep hW).set (hz1.below' hW) hnx hny 4 _)).y (((hxy.keep hW).set (hz1.below' hW) hnx hny 4 _)).x hny hnx (((hxy.keep hW).set (hz1.below' hW) hnx hny 4 _)).oy (((hxy.keep hW).set (hz1.below' hW) hnx hny 4 _)).ox l2 l1 p2 p1 q2 q1 he2 he1 z2 z1 hS' (by rw [hM1, hM2]; exact hle))
  have HFZ := Lib.hid (fun (W : World) (hW : Below (w.setCell ⟨bz, 4, none⟩ (.bool nx)).heap.size (w.setCell ⟨bz, 4, none⟩ (.bool nx)) W) => And.intro (hz1.below' hW) (hW1.trans (hW.mono (Nat.le_of_lt hz1.lt))))
  rw [hM1, hM2] at HU HC HS1 HS2
  have HW1 := Lib.hid hW1
  clear hz hx hy ox oy l1 l2 p1 p2 q1 q2 he1 he2 z1 z2 hS hS' hxy hz1 hW1 hM1 hM2
  by_cases hn : nx = ny
  · subst hn
    clear HU
    by_cases hlt : M2 < M1
    · rw [sg_gt hlt] at HC
      have hle : M2 ≤ M1 := Nat.le_of_lt hlt
      have hsum : sg nx M1 - sg nx M2 = sg nx (M1 - M2) := by unfold sg; cases nx <;> simp <;> omega
      rw [hsum]
      have HLE := Lib.hid hle
      clear hlt hle hsum HS2
      cases nx
      all_goals (
        go_enter Tryz.func82, Tryz.ntmps82
        go_wp2_with fail
        refine HC.out.mono ?_
        rintro e w' ⟨rfl, q, rfl⟩
        go_wp2_with fail
        refine (HS1.out _ (below_drewN (Below.refl _ _) q) HLE.out).mono ?_
        rintro e w2 ⟨rfl, hf, hW2⟩
        have HF := Lib.hid hf
        have HW2 := Lib.hid ((HFZ.out _ (below_drewN (Below.refl _ _) q)).2.trans hW2)
        obtain ⟨acc, form, ng, v, e2, hb, hv⟩ := hf
        obtain ⟨g0, g1, g2, g3, g4, g5, g6⟩ := sev hb
        have hform : (form : Int) = 0 ∨ (form : Int) = 1 := by rcases hv with ⟨rfl, _⟩ | ⟨rfl, _⟩; exact .inl rfl; exact .inr rfl
        obtain ⟨fm, hfm⟩ : ∃ fm : Int, (form : Int) = fm := ⟨_, rfl⟩
        rw [hfm] at hform g3
        clear hb hv hW2 hfm
        rcases hform with rfl | rfl
        all_goals (
          go_wp2
          go_ret
          exact ⟨rfl, HF.out, HW2.out⟩))
    · obtain ⟨cc, hcc⟩ : ∃ cc, Int.sign ((M1 : Int) - (M2 : Int)) = cc := ⟨_, rfl⟩
      have hc0 : ¬ 0 < cc := by
        rw [← hcc]
        rcases Nat.lt_or_eq_of_le (Nat.le_of_not_lt hlt) with h | h
        · rw [sg_lt h]; decide
        · rw [sg_eq h]; decide
      rw [hcc] at HC
      have hsum : sg nx M1 - sg nx M2 = sg (!nx) (M2 - M1) := by unfold sg; cases nx <;> simp <;> omega
      rw [hsum]
      have HLE := Lib.hid (Nat.le_of_not_lt hlt)
      clear hlt hsum HS1 hcc
      cases nx
      all_goals (
        go_enter Tryz.func82, Tryz.ntmps82
        go_wp2_with fail
        refine HC.out.mono ?_
        rintro e w' ⟨rfl, q, rfl⟩
        go_wp2_with fail
        refine (HS2.out _ (below_drewN (Below.refl _ _) q) HLE.out).mono ?_
        rintro e w2 ⟨rfl, hf, hW2⟩
        have HF := Lib.hid hf
        have HW2 := Lib.hid (((HFZ.out _ (below_drewN (Below.refl _ _) q)).2.setCell (p := ⟨bz, 4, none⟩) (Nat.le_refl _) _).trans hW2)
        obtain ⟨acc, form, ng, v, e2, hb, hv⟩ := hf
        obtain ⟨g0, g1, g2, g3, g4, g5, g6⟩ := sev hb
        have hform : (form : Int) = 0 ∨ (form : Int) = 1 := by rcases hv with ⟨rfl, _⟩ | ⟨rfl, _⟩; exact .inl rfl; exact .inr rfl
        obtain ⟨fm, hfm⟩ : ∃ fm : Int, (form : Int) = fm := ⟨_, rfl⟩
        rw [hfm] at hform g3
        clear hb hv hW2 hfm
        rcases hform with rfl | rfl
        all_goals (
          go_wp2
          go_ret
          exact ⟨rfl, HF.out, HW2.out⟩))
  · obtain rfl : ny = !nx := by cases nx <;> cases ny <;> simp_all
    clear hn
    have hsum : sg nx M1 - sg (!nx) M2 = sg nx (M1 + M2) := by unfold sg; cases nx <;> simp <;> omega
    rw [hsum]
    clear HC HS1 HS2 HFZ hsum
    cases nx
    all_goals (
      go_enter Tryz.func82, Tryz.ntmps82
      go_wp2_with fail
      refine HU.out.mono ?_
      rintro e w2 ⟨rfl, hf, hW2⟩
      have HF := Lib.hid hf
      have HW2 := Lib.hid (HW1.out.trans hW2)
      obtain ⟨acc, form, ng, v, e2, hb, hv⟩ := hf
      obtain ⟨g0, g1, g2, g3, g4, g5, g6⟩ := sev hb
      have hform : (form : Int) = 0 ∨ (form : Int) = 1 := by rcases hv with ⟨rfl, _⟩ | ⟨rfl, _⟩; exact .inl rfl; exact .inr rfl
      obtain ⟨fm, hfm⟩ : ∃ fm : Int, (form : Int) = fm := ⟨_, rfl⟩
      rw [hfm] at hform g3
      clear hb hv hW2 hfm
      rcases hform with rfl | rfl
      all_goals (
        go_wp2
        go_ret
        exact ⟨rfl, HF.out, HW2.out⟩))
set_option maxHeartbeats 4000000 in
set_option maxRecDepth 100000 in
theorem subf_zero (bz bx bY K N : Nat) (X Y : Int) (fx fy ax ay ex ey : Int) (nx ny : Bool) (vx vy : Value) (w : World) (hz : Blk w bz 64 (fC 2300 0 0 false (.slice none 0 0) 0)) (hx : Blk w bx 64 (fC 2300 ax fx nx vx ex)) (hy : Blk w bY 64 (fC 2300 ay fy ny vy ey))
    (hnx : bx ≠ bz) (hny : bY ≠ bz) (hN : N ≤ 35) (h : (fx = 0 ∧ X = 0 ∧ fy = 0 ∧ Y = 0) ∨ (fy = 0 ∧ Y = 0 ∧ fx = 1 ∧ FMan w K N nx vx ex X)) :
    Calls Tryz.prog 82 #[.pointer (some ⟨bz, 0, none⟩), .pointer (some ⟨bx, 0, none⟩), .pointer (some ⟨bY, 0, none⟩)] w fun e w' => e = .returned (.pointer (some ⟨bz, 0, none⟩)) ∧ FVal w' K N bz (X - Y) ∧ Below bz w w' := by
  obtain ⟨x0, x1, x2, x3, x4, x5, x6⟩ := sev hx
  obtain ⟨y0, y1, y2, y3, y4, y5, y6⟩ := sev hy
  obtain ⟨c0, c1, c2, c3, c4, c5, c6⟩ := sev hz
  obtain ⟨f0, f1, f2, f3, f4, f5, f6⟩ := frz hz
  have HZ := Lib.hid hz
  rcases h with ⟨rfl, rfl, rfl, rfl⟩ | ⟨rfl, rfl, rfl, hm⟩
  · clear hx hy hz
    cases nx <;> cases ny
    all_goals (
      go_enter Tryz.func82, Tryz.ntmps82
      go_wp2
      go_quiet (fail)
      go_wp2
      go_ret
      refine ⟨rfl, ⟨0, 0, _, .slice none 0 0, 0, ((HZ.out.set 2 (.int .i8 0)).set 3 (.int .u8 0)).set 4 _, .inl ⟨rfl, rfl⟩⟩, ?_⟩
      exact (((below_drewN (Below.refl bz w) _).setCell (p := ⟨bz, 2, none⟩) (Nat.le_refl _) _).setCell (p := ⟨bz, 3, none⟩) (Nat.le_refl _) _).setCell (p := ⟨bz, 4, none⟩) (Nat.le_refl _) _)
  · rw [Int.sub_zero]
    obtain ⟨B, m, n, hO, hbl, h0, hn, hzz, hX, hex⟩ := hm
    have HS := Lib.hid (fun (W : World) (hW : ∃ q, W = w.drewN q) => set_same bz bx n m B ax ex nx vx W (by obtain ⟨q, rfl⟩ := hW; exact hz) (by obtain ⟨q, rfl⟩ := hW; exact hx) (by obtain ⟨q, rfl⟩ := hW; exact hO) (Ne.symm hnx) hbl h0 (by omega) hex)
    have HM : Hid (bl m = 64 * n ∧ 0 < n ∧ n ≤ N ∧ 0 ≤ ex - ((64 * n : Nat) : Int) + K ∧ X = sg nx (m * 2 ^ (ex - ((64 * n : Nat) : Int) + K).toNat) ∧ (-20000 ≤ ex ∧ ex ≤ 20000)) := ⟨hbl, h0, hn, hzz, hX, hex⟩
    clear hx hy hz hO hbl h0 hn hzz hX hex
    go_enter Tryz.func82, Tryz.ntmps82
    go_wp2
    go_quiet (fail)
    go_wp2_with fail
    refine (HS.out _ ⟨_, rfl⟩).mono ?_
    rintro e w2 ⟨rfl, ⟨v', B', k1, k2⟩, hW⟩
    have HF : Hid (FVal w2 K N bz X ∧ Below bz w w2) := ⟨⟨0, 1, nx, v', ex, k1, .inr ⟨rfl, B', m, n, k2, HM.out⟩⟩, Below.trans (below_drewN (Below.refl bz w) _) hW⟩
    clear k1 k2 hW
    go_wp2
    go_ret
    exact ⟨rfl, HF.out.1, HF.out.2⟩
set_option exponentiation.threshold 6000 in
theorem subf_calls (bz bx bY K N : Nat) (X S : Int) (w : World) (hz : Blk w bz 64 (fC 2300 0 0 false (.slice none 0 0) 0)) (hx : FVal w K N bx X) (hy : FVal w K 1 bY S) (hnx : bx ≠ bz) (hny : bY ≠ bz) (hN : N ≤ 35) (hb : N ≤ 34 ∨ X.natAbs < 2 ^ 2239) (hX : X.natAbs < 2 ^ 4500) (hc : S = 0 ∨ (X.natAbs ≤ 2 * S.natAbs ∧ S.natAbs ≤ 2 * X.natAbs)) (hK : K ≤ 4000) :
    Calls Tryz.prog 82 #[.pointer (some ⟨bz, 0, none⟩), .pointer (some ⟨bx, 0, none⟩), .pointer (some ⟨bY, 0, none⟩)] w fun e w' => e = .returned (.pointer (some ⟨bz, 0, none⟩)) ∧ FVal w' (K + 64) 35 bz ((X - S) * ((2 ^ 64 : Nat) : Int)) ∧ Below bz w w' := by
  have hS : S.natAbs < 2 ^ 4501 := by
    have e : 2 ^ 4501 = 2 * 2 ^ 4500 := by rw [← Nat.pow_succ']
    rcases hc with rfl | hc
    · exact Nat.pow_pos (by decide)
    · rw [e]; omega
  obtain ⟨ax, fx, nx, vx, ex, bxb, hvx⟩ := hx
  obtain ⟨ay, fy, ny, vy, ey, byb, hvy⟩ := hy
  have up : ∀ e w', (e = Ending.returned (.pointer (some ⟨bz, 0, none⟩)) ∧ FVal w' K N bz (X - S) ∧ Below bz w w') → (e = Ending.returned (.pointer (some ⟨bz, 0, none⟩)) ∧ FVal w' (K + 64) 35 bz ((X - S) * ((2 ^ 64 : Nat) : Int)) ∧ Below bz w w') := fun e w' ⟨h1, h2, h3⟩ => ⟨h1, (h2.raise (J := 64)).more hN, h3⟩
  have pos : ∀ {K m : Nat} {e : Int} {n : Nat}, bl m = 64 * n → 0 < n → 0 < m * 2 ^ (e - ((64 * n : Nat) : Int) + K).toNat := fun h h2 => Nat.mul_pos (Nat.pos_of_ne_zero (by intro h3; subst h3; rw [bl_zero] at h; omega)) (Nat.pow_pos (by decide))
  rcases hvx with ⟨rfl, rfl⟩ | ⟨rfl, hmx⟩
  · rcases hvy with ⟨rfl, rfl⟩ | ⟨rfl, hmy⟩
    · exact (subf_zero bz bx bY K N 0 0 _ _ ax ay ex ey nx ny vx vy w hz bxb byb hnx hny hN (.inl ⟨rfl, rfl, rfl, rfl⟩)).mono up
    · exfalso
      obtain ⟨B2, m2, n2, o2, l2, p2, q2, z2, rfl, e2⟩ := hmy
      have hp := pos (K := K) (e := ey) l2 p2
      rw [sg_abs] at hc
      generalize m2 * 2 ^ (ey - ((64 * n2 : Nat) : Int) + K).toNat = M at *
      have : M = 0 := by
        rcases hc with h | h
        · cases ny <;> simp [sg] at h <;> omega
        · have := h.2
          simp at this; omega
      omega
  · rcases hvy with ⟨rfl, rfl⟩ | ⟨rfl, hmy⟩
    · exact (subf_zero bz bx bY K N X 0 _ _ ax ay ex ey nx ny vx vy w hz bxb byb hnx hny hN (.inr ⟨rfl, rfl, rfl, hmx⟩)).mono up
    · obtain ⟨B1, m1, n1, o1, l1, p1, q1, z1, rfl, e1⟩ := hmx
      obtain ⟨B2, m2, n2, o2, l2, p2, q2, z2, rfl, e2⟩ := hmy
      have g1 := ex_bd l1 p1 z1 nx hX
      have g2 := ex_bd l2 p2 z2 ny hS
      have hp2 := pos (K := K) (e := ey) l2 p2
      rw [sg_abs] at hX hS hb
      rw [sg_abs, sg_abs] at hc
      have hn1 : n1 ≤ 34 := by
        rcases hb with h | h
        · omega
        · have h1 : m1 ≤ m1 * 2 ^ (ex - ((64 * n1 : Nat) : Int) + K).toNat := Nat.le_mul_of_pos_right _ (Nat.pow_pos (by decide))
          have h2 := bl_le_of_lt (Nat.lt_of_le_of_lt h1 h)
          omega
      have hcc : m1 * 2 ^ (ex - ((64 * n1 : Nat) : Int) + K).toNat ≤ 2 * (m2 * 2 ^ (ey - ((64 * n2 : Nat) : Int) + K).toNat) ∧ m2 * 2 ^ (ey - ((64 * n2 : Nat) : Int) + K).toNat ≤ 2 * (m1 * 2 ^ (ex - ((64 * n1 : Nat) : Int) + K).toNat) := by
        rcases hc with h | h
        · exfalso
          generalize m2 * 2 ^ (ey - ((64 * n2 : Nat) : Int) + K).toNat = M at *
          cases ny <;> simp [sg] at h <;> omega
        · exact h
      have b1 := close_bl (N := 34) z1 z2 l1 l2 hcc.1 hcc.2 hn1 (by omega)
      have b2 := close_bl (N := 34) z2 z1 l2 l1 hcc.2 hcc.1 (by omega) hn1
      exact subf_fin bz bx bY m1 m2 n1 n2 B1 B2 K ax ay ex ey nx ny vx vy w hz bxb byb hnx hny o1 o2 l1 l2 p1 p2 (by omega) (by omega) (by omega) (by omega) z1 z2 (by omega) (by omega)
end Go.Proofs.YtfgdmiigmcnmpaaGreatFmt
