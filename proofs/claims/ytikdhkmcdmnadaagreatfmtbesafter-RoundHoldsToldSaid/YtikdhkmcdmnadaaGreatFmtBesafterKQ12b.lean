import Derived.Test.YtikdhkmcdmnadaaGreatFmtBesafterKQ12a
set_option linter.unusedVariables false
set_option linter.unusedSimpArgs false
namespace Go.Proofs.YtikdhkmcdmnadaaGreatFmtBesafter
open Go.RowKit
attribute [local go_sem ↓] Go.wp_at_zero Go.wp_at_succ

/-! ### RoundHolds (printed by gen_q12.py) -/
set_option exponentiation.threshold 6000 in
set_option maxHeartbeats 8000000 in
set_option maxRecDepth 100000 in
theorem holds_hi (c k : Int) (u v zm : Nat) (X : Int) (bm : Bool) (hk : 1 + c.tmod 3 % 3 = k) (hk3 : k = 1 ∨ k = 2 ∨ k = 3)
    (hex : ∀ W base, base ≤ W.heap.size → Calls Tryz.prog 4 #[.int .i64 k, .float .f64 u, .float .f64 v] W fun e w' => ∃ (neg : Bool) (A : Option Addr) (n k : Nat) (x : Int), e = .returned (.tuple #[.agg #[.bool neg, .slice A n k, .int .i64 x], .bool true]) ∧ NumC 2148 w' base X neg A n k x ∧ Below W.heap.size W w')
    (hlo : ∀ W, Calls Tryz.prog 5 #[.int .i64 k, .int .i64 2, .float .f64 u, .float .f64 v] W fun e w' => e = .returned (.tuple #[.float .f64 9218868437227405311, .bool true]) ∧ Below W.heap.size W w')
    (hhi : ∀ W, Calls Tryz.prog 5 #[.int .i64 k, .int .i64 1, .float .f64 u, .float .f64 v] W fun e w' => e = .returned (.tuple #[.float .f64 0, .bool false]) ∧ Below W.heap.size W w')
    (hme : ∀ W, Calls Tryz.prog 5 #[.int .i64 k, .int .i64 0, .float .f64 u, .float .f64 v] W fun e w' => e = .returned (.tuple #[.float .f64 zm, .bool bm]) ∧ Below W.heap.size W w')
    (hxb : X.natAbs < 2 ^ 5000) (c1 c2 : Int) (hc1 : Int.sign (X - -numV 9218868437227405311 * ((2 ^ 1074 : Nat) : Int)) = c1) (hc2 : Int.sign (X - numV 9218868437227405311 * ((2 ^ 1074 : Nat) : Int)) = c2) (hl : 0 ≤ c1) (hh : ¬ c2 ≤ 0) (c4 : Int.sign ((X.natAbs : Int) - numV 9218868437227405311 * ((2 ^ 1074 : Nat) : Int)) = 1)
    (w : World) :
    Calls Tryz.prog 3 #[.int .i64 c, .float .f64 u, .float .f64 v] w fun e w' => e = .returned (.bool true) ∧ Below w.heap.size w w' := by
  have HCS := Lib.hid (cs_holds_hi (by rw [← hc1]; exact sign_in _) (by rw [← hc2]; exact sign_in _) hl hh)
  have HXB := Lib.hid hxb
  have HX1 := Lib.hid hc1
  have HX2 := Lib.hid hc2
  have HX4 := Lib.hid c4
  have hadd := run_fadd 22 add_top.1
  have HEX := Lib.hid hex
  have HLO := Lib.hid hlo
  have HHI := Lib.hid hhi
  have HME := Lib.hid hme
  have hm1 : -2 ≤ c.tmod 3 ∧ c.tmod 3 ≤ 2 := by
    have := Int.tmod_lt_of_pos c (show (0 : Int) < 3 by decide)
    have := Int.lt_tmod_of_pos c (show (0 : Int) < 3 by decide)
    omega
  clear hex hlo hhi hme hxb hc1 hc2 c4
  go_enter Tryz.func3, Tryz.ntmps3
  go_wp2_with fail
  try rw [hk]
  clear hk hk3 hm1
  refine (HEX.out w w.heap.size (Nat.le_refl _)).mono ?_
  rintro e w1 ⟨n1, A1, l1, k1, x1, rfl, hR, hW⟩
  have hB := below_new (Below.refl w1.heap.size w1) (.cells #[.bool n1, .slice A1 l1 k1, .int .i64 x1] 25)
  have H1 := Lib.hid (And.intro (NK.new hR) (below_next hW hB))
  clear hR hW hB
  go_wp2_with fail
  refine (HLO.out _).mono ?_
  rintro e w2 ⟨rfl, hW⟩
  have H2 := Lib.hid (And.intro (H1.out.1.below hW) (below_next H1.out.2 hW))
  clear hW H1
  go_wp2_with fail
  refine (HHI.out _).mono ?_
  rintro e w3 ⟨rfl, hW⟩
  have H3 := Lib.hid (And.intro (H2.out.1.below hW) (below_next H2.out.2 hW))
  clear hW H2
  go_wp2_with fail
  refine (HME.out _).mono ?_
  rintro e w4 ⟨rfl, hW⟩
  have H4 := Lib.hid (And.intro (H3.out.1.below hW) (below_next H3.out.2 hW))
  clear hW H3 HEX HLO HHI HME
  go_wp2_with fail
  refine (of_calls 9218868437227405311 w.heap.size w4 (by decide)).mono ?_
  rintro e w5 ⟨n2, A2, l2, k2, x2, rfl, hR, hW⟩
  have hB := below_new (Below.refl w5.heap.size w5) (.cells #[.bool n2, .slice A2 l2 k2, .int .i64 x2] 25)
  have hb1 := below_next hW hB
  have H5 : Hid (Two w (w5.alloc (.cells #[.bool n2, .slice A2 l2 k2, .int .i64 x2] 25)) w.heap.size w1.heap.size w5.heap.size X (numV 9218868437227405311) n1 n2 A1 A2 l1 l2 k1 k2 x1 x2) := ⟨H4.out.1.below hb1, NK.new hR, below_next H4.out.2 hb1⟩
  clear hR hW hB hb1 H4
  go_upto_region 9 with fail
  go_cut [105] (fun s wx => s = .bool false ∧ Hid (Two w wx w.heap.size w1.heap.size w5.heap.size X (numV 9218868437227405311) n1 n2 A1 A2 l1 l2 k1 k2 x1 x2))
  case first =>
    obtain ⟨v0, hv0⟩ : ∃ W, W = (w5.alloc (.cells #[.bool n2, .slice A2 l2 k2, .int .i64 x2] 25)) := ⟨_, rfl⟩
    rw [← hv0] at H5 ⊢
    clear hv0
    have HC1 := Lib.hid (fun (W : World) (hW : Below v0.heap.size v0 W) => turned_c 1074 w.heap.size (numV 9218868437227405311) n2 A2 l2 k2 x2 W (H5.out.t.2.below hW))
    rcases HCS.out with ⟨rfl, rfl⟩ | ⟨rfl, rfl⟩
    · refine wp_region_noPanic ?_
      refine wp_region_held_drew (S := (fun wx => Two w wx w.heap.size w1.heap.size w5.heap.size X (numV 9218868437227405311) n1 n2 A1 A2 l1 l2 k1 k2 x1 x2)) (by kernel_rfl) (H5.out.below (by repeat (first | exact Below.refl _ _ | (with_reducible apply below_drewN) | (with_reducible apply Below.drew)))) (fun hHeld => ?_)
      change wpAnyH _ _ _ _ _ 15 _ _ _
      refine wpAnyH_take (i := 0) (oi := ?y1O0) (v := ?y1V0) ?y1I0 (by kernel_rfl) (by kernel_rfl) (by kernel_rfl) ?y1Q0 (Or.inl ⟨?y1W0, ?y1Y0⟩) hHeld ?y1R0
      case y1I0 => (simp only [List.getElem?_toArray, List.getElem?_cons_succ, List.getElem?_cons_zero]; exact rfl)
      case y1Q0 => exact fun _ _ _ h => h
      case y1W0 => kernel_rfl
      case y1Y0 => (intro W hSw; clear hSw; go_simp; try with_reducible rfl)
      try simp only [Act.put, List.setIfInBounds_toArray, List.set_cons_zero, List.set_cons_succ]
      refine wpAnyH_take (i := 1) (oi := ?y1O1) (v := ?y1V1) ?y1I1 (by kernel_rfl) (by kernel_rfl) (by kernel_rfl) ?y1Q1 (Or.inl ⟨?y1W1, ?y1Y1⟩) hHeld ?y1R1
      case y1I1 => (simp only [List.getElem?_toArray, List.getElem?_cons_succ, List.getElem?_cons_zero]; exact rfl)
      case y1Q1 => exact fun _ _ _ h => h
      case y1W1 => kernel_rfl
      case y1Y1 => (intro W hSw; obtain ⟨c0, c1, c2⟩ := hSw.x.cells; go_simp; try with_reducible rfl)
      try simp only [Act.put, List.setIfInBounds_toArray, List.set_cons_zero, List.set_cons_succ]
      refine wpAnyH_take (i := 2) (oi := ?y1O2) (v := ?y1V2) ?y1I2 (by kernel_rfl) (by kernel_rfl) (by kernel_rfl) ?y1Q2 (Or.inl ⟨?y1W2, ?y1Y2⟩) hHeld ?y1R2
      case y1I2 => (simp only [List.getElem?_toArray, List.getElem?_cons_succ, List.getElem?_cons_zero]; exact rfl)
      case y1Q2 => exact fun _ _ _ h => h
      case y1W2 => kernel_rfl
      case y1Y2 => (intro W hSw; obtain ⟨c0, c1, c2⟩ := hSw.t.cells; go_simp; try with_reducible rfl)
      try simp only [Act.put, List.setIfInBounds_toArray, List.set_cons_zero, List.set_cons_succ]
      refine wpAnyH_ready (rs := [3]) (by kernel_rfl) (by simp) ?_
      refine AllReadyH.cons (o := ?y1O3) ?y1I3 (fun K hK => ?y1R3) AllReadyH.nil
      case y1I3 => (simp only [List.getElem?_toArray, List.getElem?_cons_succ, List.getElem?_cons_zero]; exact rfl)
      rw [if_pos (by kernel_rfl)]
      go_simp
      refine (HC1.out _ (by repeat (first | exact Below.refl _ _ | (with_reducible apply below_drewN) | (with_reducible apply Below.drew)))).mono ?_
      rintro e v1 ⟨n5, A5, l5, k5, x5, rfl, hR, hW⟩
      have hb : Below v0.heap.size v0 v1 := Below.trans (by repeat (first | exact Below.refl _ _ | (with_reducible apply below_drewN) | (with_reducible apply Below.drew))) hW
      have E1 := Lib.hid (H5.out.below hb)
      have R1 := Lib.hid hR
      clear hR hW hb HC1
      have HC2 := Lib.hid (fun (W : World) (hW : Below v1.heap.size v1 W) => cmp_c 2148 w.heap.size 5000 X ((-numV 9218868437227405311) * ((2 ^ 1074 : Nat) : Int)) n1 n5 A1 A5 l1 l5 k1 k5 x1 x5 W (Nat.le_trans E1.out.bel.size hW.size) (E1.out.x.2.below hW) ((R1.out.below hW).raise 1074) HXB.out (raise_bd (by rw [Int.natAbs_neg]; exact numV_bd (u := 9218868437227405311) (by decide))) (by decide) (by decide))
      rw [HX1.out] at HC2
      go_wp2_with fail
      clear hHeld
      refine hK.out _ _ E1.out (fun hHeld => ?_)
      clear hK K
      try simp only [Act.put, List.setIfInBounds_toArray, List.set_cons_zero, List.set_cons_succ]
      refine wpAnyH_ready (rs := [4]) (by kernel_rfl) (by simp) ?_
      refine AllReadyH.cons (o := ?y1O4) ?y1I4 (fun K hK => ?y1R4) AllReadyH.nil
      case y1I4 => (simp only [List.getElem?_toArray, List.getElem?_cons_succ, List.getElem?_cons_zero]; exact rfl)
      rw [if_pos (by kernel_rfl)]
      go_simp
      refine (HC2.out _ (by repeat (first | exact Below.refl _ _ | (with_reducible apply below_drewN) | (with_reducible apply Below.drew)))).mono ?_
      rintro e v2 ⟨rfl, hW⟩
      have hb : Below v1.heap.size v1 v2 := Below.trans (by repeat (first | exact Below.refl _ _ | (with_reducible apply below_drewN) | (with_reducible apply Below.drew))) hW
      have E2 := Lib.hid (E1.out.below hb)
      clear hW hb HC2
      have HC3 := Lib.hid (fun (W : World) (hW : Below v2.heap.size v2 W) => cmp_c 2148 w.heap.size 5000 X (numV 9218868437227405311 * ((2 ^ 1074 : Nat) : Int)) n1 n2 A1 A2 l1 l2 k1 k2 x1 x2 W (Nat.le_trans E2.out.bel.size hW.size) (E2.out.x.2.below hW) ((E2.out.t.2.below hW).raise 1074) HXB.out (raise_bd (numV_bd (u := 9218868437227405311) (by decide))) (by decide) (by decide))
      rw [HX2.out] at HC3
      go_wp2_with fail
      clear hHeld
      refine hK.out _ _ E2.out (fun hHeld => ?_)
      clear hK K
      try simp only [Act.put, List.setIfInBounds_toArray, List.set_cons_zero, List.set_cons_succ]
      refine wpAnyH_take (i := 5) (oi := ?y1O5) (v := ?y1V5) ?y1I5 (by kernel_rfl) (by kernel_rfl) (by kernel_rfl) ?y1Q5 (Or.inl ⟨?y1W5, ?y1Y5⟩) hHeld ?y1R5
      case y1I5 => (simp only [List.getElem?_toArray, List.getElem?_cons_succ, List.getElem?_cons_zero]; exact rfl)
      case y1Q5 => exact fun _ _ _ h => h
      case y1W5 => kernel_rfl
      case y1Y5 => (intro W hSw; clear hSw; go_simp; try with_reducible rfl)
      try simp only [Act.put, List.setIfInBounds_toArray, List.set_cons_zero, List.set_cons_succ]
      refine wpAnyH_take (i := 6) (oi := ?y1O6) (v := ?y1V6) ?y1I6 (by kernel_rfl) (by kernel_rfl) (by kernel_rfl) ?y1Q6 (Or.inl ⟨?y1W6, ?y1Y6⟩) hHeld ?y1R6
      case y1I6 => (simp only [List.getElem?_toArray, List.getElem?_cons_succ, List.getElem?_cons_zero]; exact rfl)
      case y1Q6 => exact fun _ _ _ h => h
      case y1W6 => kernel_rfl
      case y1Y6 => (intro W hSw; clear hSw; go_simp; try with_reducible rfl)
      try simp only [Act.put, List.setIfInBounds_toArray, List.set_cons_zero, List.set_cons_succ]
      refine wpAnyH_take (i := 7) (oi := ?y1O7) (v := ?y1V7) ?y1I7 (by kernel_rfl) (by kernel_rfl) (by kernel_rfl) ?y1Q7 (Or.inl ⟨?y1W7, ?y1Y7⟩) hHeld ?y1R7
      case y1I7 => (simp only [List.getElem?_toArray, List.getElem?_cons_succ, List.getElem?_cons_zero]; exact rfl)
      case y1Q7 => exact fun _ _ _ h => h
      case y1W7 => kernel_rfl
      case y1Y7 => (intro W hSw; clear hSw; go_simp; try with_reducible rfl)
      try simp only [Act.put, List.setIfInBounds_toArray, List.set_cons_zero, List.set_cons_succ]
      refine wpAnyH_take (i := 8) (oi := ?y1O8) (v := ?y1V8) ?y1I8 (by kernel_rfl) (by kernel_rfl) (by kernel_rfl) ?y1Q8 (Or.inl ⟨?y1W8, ?y1Y8⟩) hHeld ?y1R8
      case y1I8 => (simp only [List.getElem?_toArray, List.getElem?_cons_succ, List.getElem?_cons_zero]; exact rfl)
      case y1Q8 => exact fun _ _ _ h => h
      case y1W8 => kernel_rfl
      case y1Y8 => (intro W hSw; clear hSw; go_simp; try with_reducible rfl)
      try simp only [Act.put, List.setIfInBounds_toArray, List.set_cons_zero, List.set_cons_succ]
      refine wpAnyH_take (i := 9) (oi := ?y1O9) (v := ?y1V9) ?y1I9 (by kernel_rfl) (by kernel_rfl) (by kernel_rfl) ?y1Q9 (Or.inl ⟨?y1W9, ?y1Y9⟩) hHeld ?y1R9
      case y1I9 => (simp only [List.getElem?_toArray, List.getElem?_cons_succ, List.getElem?_cons_zero]; exact rfl)
      case y1Q9 => exact fun _ _ _ h => h
      case y1W9 => kernel_rfl
      case y1Y9 => (intro W hSw; obtain ⟨c0, c1, c2⟩ := hSw.x.cells; go_simp; try with_reducible rfl)
      try simp only [Act.put, List.setIfInBounds_toArray, List.set_cons_zero, List.set_cons_succ]
      refine wpAnyH_take (i := 10) (oi := ?y1O10) (v := ?y1V10) ?y1I10 (by kernel_rfl) (by kernel_rfl) (by kernel_rfl) ?y1Q10 (Or.inl ⟨?y1W10, ?y1Y10⟩) hHeld ?y1R10
      case y1I10 => (simp only [List.getElem?_toArray, List.getElem?_cons_succ, List.getElem?_cons_zero]; exact rfl)
      case y1Q10 => exact fun _ _ _ h => h
      case y1W10 => kernel_rfl
      case y1Y10 => (intro W hSw; obtain ⟨c0, c1, c2⟩ := hSw.t.cells; go_simp; try with_reducible rfl)
      try simp only [Act.put, List.setIfInBounds_toArray, List.set_cons_zero, List.set_cons_succ]
      refine wpAnyH_ready (rs := [11]) (by kernel_rfl) (by simp) ?_
      refine AllReadyH.cons (o := ?y1O11) ?y1I11 (fun K hK => ?y1R11) AllReadyH.nil
      case y1I11 => (simp only [List.getElem?_toArray, List.getElem?_cons_succ, List.getElem?_cons_zero]; exact rfl)
      rw [if_pos (by kernel_rfl)]
      go_simp
      refine (HC3.out _ (by repeat (first | exact Below.refl _ _ | (with_reducible apply below_drewN) | (with_reducible apply Below.drew)))).mono ?_
      rintro e v3 ⟨rfl, hW⟩
      have hb : Below v2.heap.size v2 v3 := Below.trans (by repeat (first | exact Below.refl _ _ | (with_reducible apply below_drewN) | (with_reducible apply Below.drew))) hW
      have E3 := Lib.hid (E2.out.below hb)
      clear hW hb HC3
      go_wp2_with fail
      clear hHeld
      refine hK.out _ _ E3.out (fun hHeld => ?_)
      clear hK K
      try simp only [Act.put, List.setIfInBounds_toArray, List.set_cons_zero, List.set_cons_succ]
      refine wpAnyH_take (i := 12) (oi := ?y1O12) (v := ?y1V12) ?y1I12 (by kernel_rfl) (by kernel_rfl) (by kernel_rfl) ?y1Q12 (Or.inl ⟨?y1W12, ?y1Y12⟩) hHeld ?y1R12
      case y1I12 => (simp only [List.getElem?_toArray, List.getElem?_cons_succ, List.getElem?_cons_zero]; exact rfl)
      case y1Q12 => exact fun _ _ _ h => h
      case y1W12 => kernel_rfl
      case y1Y12 => (intro W hSw; clear hSw; go_simp; try with_reducible rfl)
      try simp only [Act.put, List.setIfInBounds_toArray, List.set_cons_zero, List.set_cons_succ]
      refine wpAnyH_take (i := 13) (oi := ?y1O13) (v := ?y1V13) ?y1I13 (by kernel_rfl) (by kernel_rfl) (by kernel_rfl) ?y1Q13 (Or.inl ⟨?y1W13, ?y1Y13⟩) hHeld ?y1R13
      case y1I13 => (simp only [List.getElem?_toArray, List.getElem?_cons_succ, List.getElem?_cons_zero]; exact rfl)
      case y1Q13 => exact fun _ _ _ h => h
      case y1W13 => kernel_rfl
      case y1Y13 => (intro W hSw; clear hSw; go_simp; try with_reducible rfl)
      try simp only [Act.put, List.setIfInBounds_toArray, List.set_cons_zero, List.set_cons_succ]
      refine wpAnyH_take (i := 14) (oi := ?y1O14) (v := ?y1V14) ?y1I14 (by kernel_rfl) (by kernel_rfl) (by kernel_rfl) ?y1Q14 (Or.inl ⟨?y1W14, ?y1Y14⟩) hHeld ?y1R14
      case y1I14 => (simp only [List.getElem?_toArray, List.getElem?_cons_succ, List.getElem?_cons_zero]; exact rfl)
      case y1Q14 => exact fun _ _ _ h => h
      case y1W14 => kernel_rfl
      case y1Y14 => (intro W hSw; clear hSw; go_simp; try with_reducible rfl)
      try simp only [Act.put, List.setIfInBounds_toArray, List.set_cons_zero, List.set_cons_succ]
      refine wpAnyH_done (by kernel_rfl) ?_ _
      refine NoPanic.normal ?_
      go_wp2_with fail
      go_meet
      exact ⟨rfl, E3⟩
    · refine wp_region_noPanic ?_
      refine wp_region_held_drew (S := (fun wx => Two w wx w.heap.size w1.heap.size w5.heap.size X (numV 9218868437227405311) n1 n2 A1 A2 l1 l2 k1 k2 x1 x2)) (by kernel_rfl) (H5.out.below (by repeat (first | exact Below.refl _ _ | (with_reducible apply below_drewN) | (with_reducible apply Below.drew)))) (fun hHeld => ?_)
      change wpAnyH _ _ _ _ _ 15 _ _ _
      refine wpAnyH_take (i := 0) (oi := ?y2O0) (v := ?y2V0) ?y2I0 (by kernel_rfl) (by kernel_rfl) (by kernel_rfl) ?y2Q0 (Or.inl ⟨?y2W0, ?y2Y0⟩) hHeld ?y2R0
      case y2I0 => (simp only [List.getElem?_toArray, List.getElem?_cons_succ, List.getElem?_cons_zero]; exact rfl)
      case y2Q0 => exact fun _ _ _ h => h
      case y2W0 => kernel_rfl
      case y2Y0 => (intro W hSw; clear hSw; go_simp; try with_reducible rfl)
      try simp only [Act.put, List.setIfInBounds_toArray, List.set_cons_zero, List.set_cons_succ]
      refine wpAnyH_take (i := 1) (oi := ?y2O1) (v := ?y2V1) ?y2I1 (by kernel_rfl) (by kernel_rfl) (by kernel_rfl) ?y2Q1 (Or.inl ⟨?y2W1, ?y2Y1⟩) hHeld ?y2R1
      case y2I1 => (simp only [List.getElem?_toArray, List.getElem?_cons_succ, List.getElem?_cons_zero]; exact rfl)
      case y2Q1 => exact fun _ _ _ h => h
      case y2W1 => kernel_rfl
      case y2Y1 => (intro W hSw; obtain ⟨c0, c1, c2⟩ := hSw.x.cells; go_simp; try with_reducible rfl)
      try simp only [Act.put, List.setIfInBounds_toArray, List.set_cons_zero, List.set_cons_succ]
      refine wpAnyH_take (i := 2) (oi := ?y2O2) (v := ?y2V2) ?y2I2 (by kernel_rfl) (by kernel_rfl) (by kernel_rfl) ?y2Q2 (Or.inl ⟨?y2W2, ?y2Y2⟩) hHeld ?y2R2
      case y2I2 => (simp only [List.getElem?_toArray, List.getElem?_cons_succ, List.getElem?_cons_zero]; exact rfl)
      case y2Q2 => exact fun _ _ _ h => h
      case y2W2 => kernel_rfl
      case y2Y2 => (intro W hSw; obtain ⟨c0, c1, c2⟩ := hSw.t.cells; go_simp; try with_reducible rfl)
      try simp only [Act.put, List.setIfInBounds_toArray, List.set_cons_zero, List.set_cons_succ]
      refine wpAnyH_ready (rs := [3]) (by kernel_rfl) (by simp) ?_
      refine AllReadyH.cons (o := ?y2O3) ?y2I3 (fun K hK => ?y2R3) AllReadyH.nil
      case y2I3 => (simp only [List.getElem?_toArray, List.getElem?_cons_succ, List.getElem?_cons_zero]; exact rfl)
      rw [if_pos (by kernel_rfl)]
      go_simp
      refine (HC1.out _ (by repeat (first | exact Below.refl _ _ | (with_reducible apply below_drewN) | (with_reducible apply Below.drew)))).mono ?_
      rintro e v1 ⟨n5, A5, l5, k5, x5, rfl, hR, hW⟩
      have hb : Below v0.heap.size v0 v1 := Below.trans (by repeat (first | exact Below.refl _ _ | (with_reducible apply below_drewN) | (with_reducible apply Below.drew))) hW
      have E1 := Lib.hid (H5.out.below hb)
      have R1 := Lib.hid hR
      clear hR hW hb HC1
      have HC2 := Lib.hid (fun (W : World) (hW : Below v1.heap.size v1 W) => cmp_c 2148 w.heap.size 5000 X ((-numV 9218868437227405311) * ((2 ^ 1074 : Nat) : Int)) n1 n5 A1 A5 l1 l5 k1 k5 x1 x5 W (Nat.le_trans E1.out.bel.size hW.size) (E1.out.x.2.below hW) ((R1.out.below hW).raise 1074) HXB.out (raise_bd (by rw [Int.natAbs_neg]; exact numV_bd (u := 9218868437227405311) (by decide))) (by decide) (by decide))
      rw [HX1.out] at HC2
      go_wp2_with fail
      clear hHeld
      refine hK.out _ _ E1.out (fun hHeld => ?_)
      clear hK K
      try simp only [Act.put, List.setIfInBounds_toArray, List.set_cons_zero, List.set_cons_succ]
      refine wpAnyH_ready (rs := [4]) (by kernel_rfl) (by simp) ?_
      refine AllReadyH.cons (o := ?y2O4) ?y2I4 (fun K hK => ?y2R4) AllReadyH.nil
      case y2I4 => (simp only [List.getElem?_toArray, List.getElem?_cons_succ, List.getElem?_cons_zero]; exact rfl)
      rw [if_pos (by kernel_rfl)]
      go_simp
      refine (HC2.out _ (by repeat (first | exact Below.refl _ _ | (with_reducible apply below_drewN) | (with_reducible apply Below.drew)))).mono ?_
      rintro e v2 ⟨rfl, hW⟩
      have hb : Below v1.heap.size v1 v2 := Below.trans (by repeat (first | exact Below.refl _ _ | (with_reducible apply below_drewN) | (with_reducible apply Below.drew))) hW
      have E2 := Lib.hid (E1.out.below hb)
      clear hW hb HC2
      have HC3 := Lib.hid (fun (W : World) (hW : Below v2.heap.size v2 W) => cmp_c 2148 w.heap.size 5000 X (numV 9218868437227405311 * ((2 ^ 1074 : Nat) : Int)) n1 n2 A1 A2 l1 l2 k1 k2 x1 x2 W (Nat.le_trans E2.out.bel.size hW.size) (E2.out.x.2.below hW) ((E2.out.t.2.below hW).raise 1074) HXB.out (raise_bd (numV_bd (u := 9218868437227405311) (by decide))) (by decide) (by decide))
      rw [HX2.out] at HC3
      go_wp2_with fail
      clear hHeld
      refine hK.out _ _ E2.out (fun hHeld => ?_)
      clear hK K
      try simp only [Act.put, List.setIfInBounds_toArray, List.set_cons_zero, List.set_cons_succ]
      refine wpAnyH_take (i := 5) (oi := ?y2O5) (v := ?y2V5) ?y2I5 (by kernel_rfl) (by kernel_rfl) (by kernel_rfl) ?y2Q5 (Or.inl ⟨?y2W5, ?y2Y5⟩) hHeld ?y2R5
      case y2I5 => (simp only [List.getElem?_toArray, List.getElem?_cons_succ, List.getElem?_cons_zero]; exact rfl)
      case y2Q5 => exact fun _ _ _ h => h
      case y2W5 => kernel_rfl
      case y2Y5 => (intro W hSw; clear hSw; go_simp; try with_reducible rfl)
      try simp only [Act.put, List.setIfInBounds_toArray, List.set_cons_zero, List.set_cons_succ]
      refine wpAnyH_take (i := 6) (oi := ?y2O6) (v := ?y2V6) ?y2I6 (by kernel_rfl) (by kernel_rfl) (by kernel_rfl) ?y2Q6 (Or.inl ⟨?y2W6, ?y2Y6⟩) hHeld ?y2R6
      case y2I6 => (simp only [List.getElem?_toArray, List.getElem?_cons_succ, List.getElem?_cons_zero]; exact rfl)
      case y2Q6 => exact fun _ _ _ h => h
      case y2W6 => kernel_rfl
      case y2Y6 => (intro W hSw; clear hSw; go_simp; try with_reducible rfl)
      try simp only [Act.put, List.setIfInBounds_toArray, List.set_cons_zero, List.set_cons_succ]
      refine wpAnyH_take (i := 7) (oi := ?y2O7) (v := ?y2V7) ?y2I7 (by kernel_rfl) (by kernel_rfl) (by kernel_rfl) ?y2Q7 (Or.inl ⟨?y2W7, ?y2Y7⟩) hHeld ?y2R7
      case y2I7 => (simp only [List.getElem?_toArray, List.getElem?_cons_succ, List.getElem?_cons_zero]; exact rfl)
      case y2Q7 => exact fun _ _ _ h => h
      case y2W7 => kernel_rfl
      case y2Y7 => (intro W hSw; clear hSw; go_simp; try with_reducible rfl)
      try simp only [Act.put, List.setIfInBounds_toArray, List.set_cons_zero, List.set_cons_succ]
      refine wpAnyH_take (i := 8) (oi := ?y2O8) (v := ?y2V8) ?y2I8 (by kernel_rfl) (by kernel_rfl) (by kernel_rfl) ?y2Q8 (Or.inl ⟨?y2W8, ?y2Y8⟩) hHeld ?y2R8
      case y2I8 => (simp only [List.getElem?_toArray, List.getElem?_cons_succ, List.getElem?_cons_zero]; exact rfl)
      case y2Q8 => exact fun _ _ _ h => h
      case y2W8 => kernel_rfl
      case y2Y8 => (intro W hSw; clear hSw; go_simp; try with_reducible rfl)
      try simp only [Act.put, List.setIfInBounds_toArray, List.set_cons_zero, List.set_cons_succ]
      refine wpAnyH_take (i := 9) (oi := ?y2O9) (v := ?y2V9) ?y2I9 (by kernel_rfl) (by kernel_rfl) (by kernel_rfl) ?y2Q9 (Or.inl ⟨?y2W9, ?y2Y9⟩) hHeld ?y2R9
      case y2I9 => (simp only [List.getElem?_toArray, List.getElem?_cons_succ, List.getElem?_cons_zero]; exact rfl)
      case y2Q9 => exact fun _ _ _ h => h
      case y2W9 => kernel_rfl
      case y2Y9 => (intro W hSw; obtain ⟨c0, c1, c2⟩ := hSw.x.cells; go_simp; try with_reducible rfl)
      try simp only [Act.put, List.setIfInBounds_toArray, List.set_cons_zero, List.set_cons_succ]
      refine wpAnyH_take (i := 10) (oi := ?y2O10) (v := ?y2V10) ?y2I10 (by kernel_rfl) (by kernel_rfl) (by kernel_rfl) ?y2Q10 (Or.inl ⟨?y2W10, ?y2Y10⟩) hHeld ?y2R10
      case y2I10 => (simp only [List.getElem?_toArray, List.getElem?_cons_succ, List.getElem?_cons_zero]; exact rfl)
      case y2Q10 => exact fun _ _ _ h => h
      case y2W10 => kernel_rfl
      case y2Y10 => (intro W hSw; obtain ⟨c0, c1, c2⟩ := hSw.t.cells; go_simp; try with_reducible rfl)
      try simp only [Act.put, List.setIfInBounds_toArray, List.set_cons_zero, List.set_cons_succ]
      refine wpAnyH_ready (rs := [11]) (by kernel_rfl) (by simp) ?_
      refine AllReadyH.cons (o := ?y2O11) ?y2I11 (fun K hK => ?y2R11) AllReadyH.nil
      case y2I11 => (simp only [List.getElem?_toArray, List.getElem?_cons_succ, List.getElem?_cons_zero]; exact rfl)
      rw [if_pos (by kernel_rfl)]
      go_simp
      refine (HC3.out _ (by repeat (first | exact Below.refl _ _ | (with_reducible apply below_drewN) | (with_reducible apply Below.drew)))).mono ?_
      rintro e v3 ⟨rfl, hW⟩
      have hb : Below v2.heap.size v2 v3 := Below.trans (by repeat (first | exact Below.refl _ _ | (with_reducible apply below_drewN) | (with_reducible apply Below.drew))) hW
      have E3 := Lib.hid (E2.out.below hb)
      clear hW hb HC3
      go_wp2_with fail
      clear hHeld
      refine hK.out _ _ E3.out (fun hHeld => ?_)
      clear hK K
      try simp only [Act.put, List.setIfInBounds_toArray, List.set_cons_zero, List.set_cons_succ]
      refine wpAnyH_take (i := 12) (oi := ?y2O12) (v := ?y2V12) ?y2I12 (by kernel_rfl) (by kernel_rfl) (by kernel_rfl) ?y2Q12 (Or.inl ⟨?y2W12, ?y2Y12⟩) hHeld ?y2R12
      case y2I12 => (simp only [List.getElem?_toArray, List.getElem?_cons_succ, List.getElem?_cons_zero]; exact rfl)
      case y2Q12 => exact fun _ _ _ h => h
      case y2W12 => kernel_rfl
      case y2Y12 => (intro W hSw; clear hSw; go_simp; try with_reducible rfl)
      try simp only [Act.put, List.setIfInBounds_toArray, List.set_cons_zero, List.set_cons_succ]
      refine wpAnyH_take (i := 13) (oi := ?y2O13) (v := ?y2V13) ?y2I13 (by kernel_rfl) (by kernel_rfl) (by kernel_rfl) ?y2Q13 (Or.inl ⟨?y2W13, ?y2Y13⟩) hHeld ?y2R13
      case y2I13 => (simp only [List.getElem?_toArray, List.getElem?_cons_succ, List.getElem?_cons_zero]; exact rfl)
      case y2Q13 => exact fun _ _ _ h => h
      case y2W13 => kernel_rfl
      case y2Y13 => (intro W hSw; clear hSw; go_simp; try with_reducible rfl)
      try simp only [Act.put, List.setIfInBounds_toArray, List.set_cons_zero, List.set_cons_succ]
      refine wpAnyH_take (i := 14) (oi := ?y2O14) (v := ?y2V14) ?y2I14 (by kernel_rfl) (by kernel_rfl) (by kernel_rfl) ?y2Q14 (Or.inl ⟨?y2W14, ?y2Y14⟩) hHeld ?y2R14
      case y2I14 => (simp only [List.getElem?_toArray, List.getElem?_cons_succ, List.getElem?_cons_zero]; exact rfl)
      case y2Q14 => exact fun _ _ _ h => h
      case y2W14 => kernel_rfl
      case y2Y14 => (intro W hSw; clear hSw; go_simp; try with_reducible rfl)
      try simp only [Act.put, List.setIfInBounds_toArray, List.set_cons_zero, List.set_cons_succ]
      refine wpAnyH_done (by kernel_rfl) ?_ _
      refine NoPanic.normal ?_
      go_wp2_with fail
      go_meet
      exact ⟨rfl, E3⟩
  case rest =>
    obtain ⟨rfl, hG1⟩ := hcut
    obtain ⟨u1, rfl⟩ : ∃ wo : World, wo = wc := ⟨_, rfl⟩
    have G1 := Lib.hid hG1.out
    clear hG1
    clear hl hh HCS
    obtain ⟨zs, hzs⟩ : ∃ z, (9218868437227405311 : Nat) = z := ⟨_, rfl⟩
    have HSZ : Hid (((numV zs).natAbs : Int) = numV 9218868437227405311) := by rw [← hzs]; exact top_nn.1
    have HSU : Hid (zs < 18446744073709551616) := Lib.hid (by rw [← hzs]; decide)
    rw [hzs] at hadd
    go_wp2_with fail
    refine (lnum_calls zs w.heap.size _ HSU.out G1.out.bel.size).mono ?_
    rintro e w6 ⟨n3, A3, l3, k3, x3, rfl, hR, hW⟩
    have hB := below_new (Below.refl w6.heap.size w6) (.cells #[.bool n3, .slice A3 l3 k3, .int .i64 x3] 25)
    have hb1 := below_next hW hB
    have H6 : Hid (Thr w (w6.alloc (.cells #[.bool n3, .slice A3 l3 k3, .int .i64 x3] 25)) w.heap.size w1.heap.size w5.heap.size w6.heap.size X (numV 9218868437227405311) (numV zs) n1 n2 n3 A1 A2 A3 l1 l2 l3 k1 k2 k3 x1 x2 x3) := ⟨G1.out.x.below hb1, G1.out.t.below hb1, NK.new hR, below_next G1.out.bel hb1⟩
    clear hR hW hB hb1 G1
    clear hzs
    have HD0 : Hid (Int.sign (((numV zs).natAbs : Int) - numV 9218868437227405311) = 0) := by rw [Hid, HSZ.out, Int.sub_self]; rfl
    go_upto_region 13 with fail
    obtain ⟨v0, hv0⟩ : ∃ W, W = (w6.alloc (.cells #[.bool n3, .slice A3 l3 k3, .int .i64 x3] 25)) := ⟨_, rfl⟩
    rw [← hv0] at H6 ⊢
    clear hv0
    have HC1 := Lib.hid (fun (W : World) (hW : Below v0.heap.size v0 W) => size_c 1074 w.heap.size (numV zs) n3 A3 l3 k3 x3 W (H6.out.s.2.below hW))
    refine wp_region_noPanic ?_
    refine wp_region_held_drew (S := (fun wx => Thr w wx w.heap.size w1.heap.size w5.heap.size w6.heap.size X (numV 9218868437227405311) (numV zs) n1 n2 n3 A1 A2 A3 l1 l2 l3 k1 k2 k3 x1 x2 x3)) (by kernel_rfl) (H6.out.below (by repeat (first | exact Below.refl _ _ | (with_reducible apply below_drewN) | (with_reducible apply Below.drew)))) (fun hHeld => ?_)
    change wpAnyH _ _ _ _ _ 16 _ _ _
    refine wpAnyH_take (i := 0) (oi := ?y3O0) (v := ?y3V0) ?y3I0 (by kernel_rfl) (by kernel_rfl) (by kernel_rfl) ?y3Q0 (Or.inl ⟨?y3W0, ?y3Y0⟩) hHeld ?y3R0
    case y3I0 => (simp only [List.getElem?_toArray, List.getElem?_cons_succ, List.getElem?_cons_zero]; exact rfl)
    case y3Q0 => exact fun _ _ _ h => h
    case y3W0 => kernel_rfl
    case y3Y0 => (intro W hSw; obtain ⟨c0, c1, c2⟩ := hSw.s.cells; go_simp; try with_reducible rfl)
    try simp only [Act.put, List.setIfInBounds_toArray, List.set_cons_zero, List.set_cons_succ]
    refine wpAnyH_take (i := 2) (oi := ?y3O2) (v := ?y3V2) ?y3I2 (by kernel_rfl) (by kernel_rfl) (by kernel_rfl) ?y3Q2 (Or.inl ⟨?y3W2, ?y3Y2⟩) hHeld ?y3R2
    case y3I2 => (simp only [List.getElem?_toArray, List.getElem?_cons_succ, List.getElem?_cons_zero]; exact rfl)
    case y3Q2 => exact fun _ _ _ h => h
    case y3W2 => kernel_rfl
    case y3Y2 => (intro W hSw; obtain ⟨c0, c1, c2⟩ := hSw.t.cells; go_simp; try with_reducible rfl)
    try simp only [Act.put, List.setIfInBounds_toArray, List.set_cons_zero, List.set_cons_succ]
    refine wpAnyH_ready (rs := [1]) (by kernel_rfl) (by simp) ?_
    refine AllReadyH.cons (o := ?y3O1) ?y3I1 (fun K hK => ?y3R1) AllReadyH.nil
    case y3I1 => (simp only [List.getElem?_toArray, List.getElem?_cons_succ, List.getElem?_cons_zero]; exact rfl)
    rw [if_pos (by kernel_rfl)]
    go_simp
    refine (HC1.out _ (by repeat (first | exact Below.refl _ _ | (with_reducible apply below_drewN) | (with_reducible apply Below.drew)))).mono ?_
    rintro e v1 ⟨n5, A5, l5, k5, x5, rfl, hR, hW⟩
    have hb : Below v0.heap.size v0 v1 := Below.trans (by repeat (first | exact Below.refl _ _ | (with_reducible apply below_drewN) | (with_reducible apply Below.drew))) hW
    have E1 := Lib.hid (H6.out.below hb)
    have R1 := Lib.hid hR
    clear hR hW hb HC1
    have HC2 := Lib.hid (fun (W : World) (hW : Below v1.heap.size v1 W) => cmp_c 1074 w.heap.size 2098 ((numV zs).natAbs : Int) (numV 9218868437227405311) n5 n2 A5 A2 l5 l2 k5 k2 x5 x2 W (Nat.le_trans E1.out.bel.size hW.size) (R1.out.below hW) (E1.out.t.2.below hW) (by rw [Int.natAbs_natCast]; exact numV_bd HSU.out) (numV_bd (u := 9218868437227405311) (by decide)) (by decide) (by decide))
    rw [HD0.out] at HC2
    go_wp2_with fail
    clear hHeld
    refine hK.out _ _ E1.out (fun hHeld => ?_)
    clear hK K
    try simp only [Act.put, List.setIfInBounds_toArray, List.set_cons_zero, List.set_cons_succ]
    refine wpAnyH_ready (rs := [3]) (by kernel_rfl) (by simp) ?_
    refine AllReadyH.cons (o := ?y3O3) ?y3I3 (fun K hK => ?y3R3) AllReadyH.nil
    case y3I3 => (simp only [List.getElem?_toArray, List.getElem?_cons_succ, List.getElem?_cons_zero]; exact rfl)
    rw [if_pos (by kernel_rfl)]
    go_simp
    refine (HC2.out _ (by repeat (first | exact Below.refl _ _ | (with_reducible apply below_drewN) | (with_reducible apply Below.drew)))).mono ?_
    rintro e v2 ⟨rfl, hW⟩
    have hb : Below v1.heap.size v1 v2 := Below.trans (by repeat (first | exact Below.refl _ _ | (with_reducible apply below_drewN) | (with_reducible apply Below.drew))) hW
    have E2 := Lib.hid (E1.out.below hb)
    clear hW hb HC2
    have HC3 := Lib.hid (fun (W : World) (hW : Below v2.heap.size v2 W) => size_c 2148 w.heap.size X n1 A1 l1 k1 x1 W (E2.out.x.2.below hW))
    go_wp2_with fail
    clear hHeld
    refine hK.out _ _ E2.out (fun hHeld => ?_)
    clear hK K
    try simp only [Act.put, List.setIfInBounds_toArray, List.set_cons_zero, List.set_cons_succ]
    refine wpAnyH_take (i := 4) (oi := ?y3O4) (v := ?y3V4) ?y3I4 (by kernel_rfl) (by kernel_rfl) (by kernel_rfl) ?y3Q4 (Or.inl ⟨?y3W4, ?y3Y4⟩) hHeld ?y3R4
    case y3I4 => (simp only [List.getElem?_toArray, List.getElem?_cons_succ, List.getElem?_cons_zero]; exact rfl)
    case y3Q4 => exact fun _ _ _ h => h
    case y3W4 => kernel_rfl
    case y3Y4 => (intro W hSw; clear hSw; go_simp; try with_reducible rfl)
    try simp only [Act.put, List.setIfInBounds_toArray, List.set_cons_zero, List.set_cons_succ]
    refine wpAnyH_take (i := 5) (oi := ?y3O5) (v := ?y3V5) ?y3I5 (by kernel_rfl) (by kernel_rfl) (by kernel_rfl) ?y3Q5 (Or.inl ⟨?y3W5, ?y3Y5⟩) hHeld ?y3R5
    case y3I5 => (simp only [List.getElem?_toArray, List.getElem?_cons_succ, List.getElem?_cons_zero]; exact rfl)
    case y3Q5 => exact fun _ _ _ h => h
    case y3W5 => kernel_rfl
    case y3Y5 => (intro W hSw; clear hSw; go_simp; try with_reducible rfl)
    try simp only [Act.put, List.setIfInBounds_toArray, List.set_cons_zero, List.set_cons_succ]
    refine wpAnyH_take (i := 6) (oi := ?y3O6) (v := ?y3V6) ?y3I6 (by kernel_rfl) (by kernel_rfl) (by kernel_rfl) ?y3Q6 (Or.inl ⟨?y3W6, ?y3Y6⟩) hHeld ?y3R6
    case y3I6 => (simp only [List.getElem?_toArray, List.getElem?_cons_succ, List.getElem?_cons_zero]; exact rfl)
    case y3Q6 => exact fun _ _ _ h => h
    case y3W6 => kernel_rfl
    case y3Y6 => (intro W hSw; obtain ⟨c0, c1, c2⟩ := hSw.x.cells; go_simp; try with_reducible rfl)
    try simp only [Act.put, List.setIfInBounds_toArray, List.set_cons_zero, List.set_cons_succ]
    refine wpAnyH_take (i := 8) (oi := ?y3O8) (v := ?y3V8) ?y3I8 (by kernel_rfl) (by kernel_rfl) (by kernel_rfl) ?y3Q8 (Or.inl ⟨?y3W8, ?y3Y8⟩) hHeld ?y3R8
    case y3I8 => (simp only [List.getElem?_toArray, List.getElem?_cons_succ, List.getElem?_cons_zero]; exact rfl)
    case y3Q8 => exact fun _ _ _ h => h
    case y3W8 => kernel_rfl
    case y3Y8 => (intro W hSw; obtain ⟨c0, c1, c2⟩ := hSw.t.cells; go_simp; try with_reducible rfl)
    try simp only [Act.put, List.setIfInBounds_toArray, List.set_cons_zero, List.set_cons_succ]
    refine wpAnyH_ready (rs := [7]) (by kernel_rfl) (by simp) ?_
    refine AllReadyH.cons (o := ?y3O7) ?y3I7 (fun K hK => ?y3R7) AllReadyH.nil
    case y3I7 => (simp only [List.getElem?_toArray, List.getElem?_cons_succ, List.getElem?_cons_zero]; exact rfl)
    rw [if_pos (by kernel_rfl)]
    go_simp
    refine (HC3.out _ (by repeat (first | exact Below.refl _ _ | (with_reducible apply below_drewN) | (with_reducible apply Below.drew)))).mono ?_
    rintro e v3 ⟨n6, A6, l6, k6, x6, rfl, hR, hW⟩
    have hb : Below v2.heap.size v2 v3 := Below.trans (by repeat (first | exact Below.refl _ _ | (with_reducible apply below_drewN) | (with_reducible apply Below.drew))) hW
    have E3 := Lib.hid (E2.out.below hb)
    have R2 := Lib.hid hR
    clear hR hW hb HC3
    have HC4 := Lib.hid (fun (W : World) (hW : Below v3.heap.size v3 W) => cmp_c 2148 w.heap.size 5000 (X.natAbs : Int) (numV 9218868437227405311 * ((2 ^ 1074 : Nat) : Int)) n6 n2 A6 A2 l6 l2 k6 k2 x6 x2 W (Nat.le_trans E3.out.bel.size hW.size) (R2.out.below hW) ((E3.out.t.2.below hW).raise 1074) (by rw [Int.natAbs_natCast]; exact HXB.out) (raise_bd (numV_bd (u := 9218868437227405311) (by decide))) (by decide) (by decide))
    rw [HX4.out] at HC4
    go_wp2_with fail
    clear hHeld
    refine hK.out _ _ E3.out (fun hHeld => ?_)
    clear hK K
    try simp only [Act.put, List.setIfInBounds_toArray, List.set_cons_zero, List.set_cons_succ]
    refine wpAnyH_ready (rs := [9]) (by kernel_rfl) (by simp) ?_
    refine AllReadyH.cons (o := ?y3O9) ?y3I9 (fun K hK => ?y3R9) AllReadyH.nil
    case y3I9 => (simp only [List.getElem?_toArray, List.getElem?_cons_succ, List.getElem?_cons_zero]; exact rfl)
    rw [if_pos (by kernel_rfl)]
    go_simp
    refine (HC4.out _ (by repeat (first | exact Below.refl _ _ | (with_reducible apply below_drewN) | (with_reducible apply Below.drew)))).mono ?_
    rintro e v4 ⟨rfl, hW⟩
    have hb : Below v3.heap.size v3 v4 := Below.trans (by repeat (first | exact Below.refl _ _ | (with_reducible apply below_drewN) | (with_reducible apply Below.drew))) hW
    have E4 := Lib.hid (E3.out.below hb)
    clear hW hb HC4
    go_wp2_with fail
    clear hHeld
    refine hK.out _ _ E4.out (fun hHeld => ?_)
    clear hK K
    try simp only [Act.put, List.setIfInBounds_toArray, List.set_cons_zero, List.set_cons_succ]
    refine wpAnyH_take (i := 10) (oi := ?y3O10) (v := ?y3V10) ?y3I10 (by kernel_rfl) (by kernel_rfl) (by kernel_rfl) ?y3Q10 (Or.inl ⟨?y3W10, ?y3Y10⟩) hHeld ?y3R10
    case y3I10 => (simp only [List.getElem?_toArray, List.getElem?_cons_succ, List.getElem?_cons_zero]; exact rfl)
    case y3Q10 => exact fun _ _ _ h => h
    case y3W10 => kernel_rfl
    case y3Y10 => (intro W hSw; clear hSw; go_simp; try with_reducible rfl)
    try simp only [Act.put, List.setIfInBounds_toArray, List.set_cons_zero, List.set_cons_succ]
    refine wpAnyH_take (i := 11) (oi := ?y3O11) (v := ?y3V11) ?y3I11 (by kernel_rfl) (by kernel_rfl) (by kernel_rfl) ?y3Q11 (Or.inl ⟨?y3W11, ?y3Y11⟩) hHeld ?y3R11
    case y3I11 => (simp only [List.getElem?_toArray, List.getElem?_cons_succ, List.getElem?_cons_zero]; exact rfl)
    case y3Q11 => exact fun _ _ _ h => h
    case y3W11 => kernel_rfl
    case y3Y11 => (intro W hSw; clear hSw; go_simp; try with_reducible rfl)
    try simp only [Act.put, List.setIfInBounds_toArray, List.set_cons_zero, List.set_cons_succ]
    refine wpAnyH_take (i := 12) (oi := ?y3O12) (v := ?y3V12) ?y3I12 (by kernel_rfl) (by kernel_rfl) (by kernel_rfl) ?y3Q12 (Or.inl ⟨?y3W12, ?y3Y12⟩) hHeld ?y3R12
    case y3I12 => (simp only [List.getElem?_toArray, List.getElem?_cons_succ, List.getElem?_cons_zero]; exact rfl)
    case y3Q12 => exact fun _ _ _ h => h
    case y3W12 => kernel_rfl
    case y3Y12 => (intro W hSw; clear hSw; go_simp; try with_reducible rfl)
    try simp only [Act.put, List.setIfInBounds_toArray, List.set_cons_zero, List.set_cons_succ]
    refine wpAnyH_ready (rs := [13]) (by kernel_rfl) (by simp) ?_
    refine AllReadyH.cons (o := ?y3O13) ?y3I13 (fun K hK => ?y3R13) AllReadyH.nil
    case y3I13 => (simp only [List.getElem?_toArray, List.getElem?_cons_succ, List.getElem?_cons_zero]; exact rfl)
    rw [if_pos (by kernel_rfl)]
    go_simp
    refine (started_calls _).mono ?_
    rintro e v9 ⟨rfl, hW⟩
    have E5 := Lib.hid (E4.out.below (Below.trans (by repeat (first | exact Below.refl _ _ | (with_reducible apply below_drewN) | (with_reducible apply Below.drew))) hW))
    clear hW
    go_wp2_with fail
    clear hHeld
    refine hK.out _ _ E5.out (fun hHeld => ?_)
    clear hK K
    try simp only [Act.put, List.setIfInBounds_toArray, List.set_cons_zero, List.set_cons_succ]
    refine wpAnyH_take (i := 14) (oi := ?y3O14) (v := ?y3V14) ?y3I14 (by kernel_rfl) (by kernel_rfl) (by kernel_rfl) ?y3Q14 (Or.inl ⟨?y3W14, ?y3Y14⟩) hHeld ?y3R14
    case y3I14 => (simp only [List.getElem?_toArray, List.getElem?_cons_succ, List.getElem?_cons_zero]; exact rfl)
    case y3Q14 => exact fun _ _ _ h => h
    case y3W14 => kernel_rfl
    case y3Y14 => (intro W hSw; clear hSw; go_simp; try with_reducible rfl)
    try simp only [Act.put, List.setIfInBounds_toArray, List.set_cons_zero, List.set_cons_succ]
    refine wpAnyH_take (i := 15) (oi := ?y3O15) (v := ?y3V15) ?y3I15 (by kernel_rfl) (by kernel_rfl) (by kernel_rfl) ?y3Q15 (Or.inl ⟨?y3W15, ?y3Y15⟩) hHeld ?y3R15
    case y3I15 => (simp only [List.getElem?_toArray, List.getElem?_cons_succ, List.getElem?_cons_zero]; exact rfl)
    case y3Q15 => exact fun _ _ _ h => h
    case y3W15 => kernel_rfl
    case y3Y15 => (intro W hSw; clear hSw; go_simp; try with_reducible rfl)
    try simp only [Act.put, List.setIfInBounds_toArray, List.set_cons_zero, List.set_cons_succ]
    refine wpAnyH_done (by kernel_rfl) ?_ _
    refine NoPanic.normal ?_
    go_wp2
    go_ret
    exact ⟨rfl, E5.out.bel⟩
set_option exponentiation.threshold 6000 in
set_option maxHeartbeats 8000000 in
set_option maxRecDepth 100000 in
theorem holds_lo (c k : Int) (u v zm : Nat) (X : Int) (bm : Bool) (hk : 1 + c.tmod 3 % 3 = k) (hk3 : k = 1 ∨ k = 2 ∨ k = 3)
    (hex : ∀ W base, base ≤ W.heap.size → Calls Tryz.prog 4 #[.int .i64 k, .float .f64 u, .float .f64 v] W fun e w' => ∃ (neg : Bool) (A : Option Addr) (n k : Nat) (x : Int), e = .returned (.tuple #[.agg #[.bool neg, .slice A n k, .int .i64 x], .bool true]) ∧ NumC 2148 w' base X neg A n k x ∧ Below W.heap.size W w')
    (hlo : ∀ W, Calls Tryz.prog 5 #[.int .i64 k, .int .i64 2, .float .f64 u, .float .f64 v] W fun e w' => e = .returned (.tuple #[.float .f64 0, .bool false]) ∧ Below W.heap.size W w')
    (hhi : ∀ W, Calls Tryz.prog 5 #[.int .i64 k, .int .i64 1, .float .f64 u, .float .f64 v] W fun e w' => e = .returned (.tuple #[.float .f64 18442240474082181119, .bool true]) ∧ Below W.heap.size W w')
    (hme : ∀ W, Calls Tryz.prog 5 #[.int .i64 k, .int .i64 0, .float .f64 u, .float .f64 v] W fun e w' => e = .returned (.tuple #[.float .f64 zm, .bool bm]) ∧ Below W.heap.size W w')
    (hxb : X.natAbs < 2 ^ 5000) (c1 c2 : Int) (hc1 : Int.sign (X - -numV 9218868437227405311 * ((2 ^ 1074 : Nat) : Int)) = c1) (hc2 : Int.sign (X - numV 9218868437227405311 * ((2 ^ 1074 : Nat) : Int)) = c2) (hl : ¬ 0 ≤ c1) (hh : c2 ≤ 0) (c4 : Int.sign ((X.natAbs : Int) - numV 9218868437227405311 * ((2 ^ 1074 : Nat) : Int)) = 1)
    (w : World) :
    Calls Tryz.prog 3 #[.int .i64 c, .float .f64 u, .float .f64 v] w fun e w' => e = .returned (.bool true) ∧ Below w.heap.size w w' := by
  have HCS := Lib.hid (cs_holds_lo (by rw [← hc1]; exact sign_in _) (by rw [← hc2]; exact sign_in _) hl hh)
  have HXB := Lib.hid hxb
  have HX1 := Lib.hid hc1
  have HX2 := Lib.hid hc2
  have HX4 := Lib.hid c4
  have hadd := run_fadd 22 add_top.2
  have HEX := Lib.hid hex
  have HLO := Lib.hid hlo
  have HHI := Lib.hid hhi
  have HME := Lib.hid hme
  have hm1 : -2 ≤ c.tmod 3 ∧ c.tmod 3 ≤ 2 := by
    have := Int.tmod_lt_of_pos c (show (0 : Int) < 3 by decide)
    have := Int.lt_tmod_of_pos c (show (0 : Int) < 3 by decide)
    omega
  clear hex hlo hhi hme hxb hc1 hc2 c4
  go_enter Tryz.func3, Tryz.ntmps3
  go_wp2_with fail
  try rw [hk]
  clear hk hk3 hm1
  refine (HEX.out w w.heap.size (Nat.le_refl _)).mono ?_
  rintro e w1 ⟨n1, A1, l1, k1, x1, rfl, hR, hW⟩
  have hB := below_new (Below.refl w1.heap.size w1) (.cells #[.bool n1, .slice A1 l1 k1, .int .i64 x1] 25)
  have H1 := Lib.hid (And.intro (NK.new hR) (below_next hW hB))
  clear hR hW hB
  go_wp2_with fail
  refine (HLO.out _).mono ?_
  rintro e w2 ⟨rfl, hW⟩
  have H2 := Lib.hid (And.intro (H1.out.1.below hW) (below_next H1.out.2 hW))
  clear hW H1
  go_wp2_with fail
  refine (HHI.out _).mono ?_
  rintro e w3 ⟨rfl, hW⟩
  have H3 := Lib.hid (And.intro (H2.out.1.below hW) (below_next H2.out.2 hW))
  clear hW H2
  go_wp2_with fail
  refine (HME.out _).mono ?_
  rintro e w4 ⟨rfl, hW⟩
  have H4 := Lib.hid (And.intro (H3.out.1.below hW) (below_next H3.out.2 hW))
  clear hW H3 HEX HLO HHI HME
  go_wp2_with fail
  refine (of_calls 9218868437227405311 w.heap.size w4 (by decide)).mono ?_
  rintro e w5 ⟨n2, A2, l2, k2, x2, rfl, hR, hW⟩
  have hB := below_new (Below.refl w5.heap.size w5) (.cells #[.bool n2, .slice A2 l2 k2, .int .i64 x2] 25)
  have hb1 := below_next hW hB
  have H5 : Hid (Two w (w5.alloc (.cells #[.bool n2, .slice A2 l2 k2, .int .i64 x2] 25)) w.heap.size w1.heap.size w5.heap.size X (numV 9218868437227405311) n1 n2 A1 A2 l1 l2 k1 k2 x1 x2) := ⟨H4.out.1.below hb1, NK.new hR, below_next H4.out.2 hb1⟩
  clear hR hW hB hb1 H4
  go_upto_region 9 with fail
  go_cut [105] (fun s wx => s = .bool false ∧ Hid (Two w wx w.heap.size w1.heap.size w5.heap.size X (numV 9218868437227405311) n1 n2 A1 A2 l1 l2 k1 k2 x1 x2))
  case first =>
    obtain ⟨v0, hv0⟩ : ∃ W, W = (w5.alloc (.cells #[.bool n2, .slice A2 l2 k2, .int .i64 x2] 25)) := ⟨_, rfl⟩
    rw [← hv0] at H5 ⊢
    clear hv0
    have HC1 := Lib.hid (fun (W : World) (hW : Below v0.heap.size v0 W) => turned_c 1074 w.heap.size (numV 9218868437227405311) n2 A2 l2 k2 x2 W (H5.out.t.2.below hW))
    rcases HCS.out with ⟨rfl, rfl⟩ | ⟨rfl, rfl⟩
    · refine wp_region_noPanic ?_
      refine wp_region_held_drew (S := (fun wx => Two w wx w.heap.size w1.heap.size w5.heap.size X (numV 9218868437227405311) n1 n2 A1 A2 l1 l2 k1 k2 x1 x2)) (by kernel_rfl) (H5.out.below (by repeat (first | exact Below.refl _ _ | (with_reducible apply below_drewN) | (with_reducible apply Below.drew)))) (fun hHeld => ?_)
      change wpAnyH _ _ _ _ _ 15 _ _ _
      refine wpAnyH_take (i := 0) (oi := ?y4O0) (v := ?y4V0) ?y4I0 (by kernel_rfl) (by kernel_rfl) (by kernel_rfl) ?y4Q0 (Or.inl ⟨?y4W0, ?y4Y0⟩) hHeld ?y4R0
      case y4I0 => (simp only [List.getElem?_toArray, List.getElem?_cons_succ, List.getElem?_cons_zero]; exact rfl)
      case y4Q0 => exact fun _ _ _ h => h
      case y4W0 => kernel_rfl
      case y4Y0 => (intro W hSw; clear hSw; go_simp; try with_reducible rfl)
      try simp only [Act.put, List.setIfInBounds_toArray, List.set_cons_zero, List.set_cons_succ]
      refine wpAnyH_take (i := 1) (oi := ?y4O1) (v := ?y4V1) ?y4I1 (by kernel_rfl) (by kernel_rfl) (by kernel_rfl) ?y4Q1 (Or.inl ⟨?y4W1, ?y4Y1⟩) hHeld ?y4R1
      case y4I1 => (simp only [List.getElem?_toArray, List.getElem?_cons_succ, List.getElem?_cons_zero]; exact rfl)
      case y4Q1 => exact fun _ _ _ h => h
      case y4W1 => kernel_rfl
      case y4Y1 => (intro W hSw; obtain ⟨c0, c1, c2⟩ := hSw.x.cells; go_simp; try with_reducible rfl)
      try simp only [Act.put, List.setIfInBounds_toArray, List.set_cons_zero, List.set_cons_succ]
      refine wpAnyH_take (i := 2) (oi := ?y4O2) (v := ?y4V2) ?y4I2 (by kernel_rfl) (by kernel_rfl) (by kernel_rfl) ?y4Q2 (Or.inl ⟨?y4W2, ?y4Y2⟩) hHeld ?y4R2
      case y4I2 => (simp only [List.getElem?_toArray, List.getElem?_cons_succ, List.getElem?_cons_zero]; exact rfl)
      case y4Q2 => exact fun _ _ _ h => h
      case y4W2 => kernel_rfl
      case y4Y2 => (intro W hSw; obtain ⟨c0, c1, c2⟩ := hSw.t.cells; go_simp; try with_reducible rfl)
      try simp only [Act.put, List.setIfInBounds_toArray, List.set_cons_zero, List.set_cons_succ]
      refine wpAnyH_ready (rs := [3]) (by kernel_rfl) (by simp) ?_
      refine AllReadyH.cons (o := ?y4O3) ?y4I3 (fun K hK => ?y4R3) AllReadyH.nil
      case y4I3 => (simp only [List.getElem?_toArray, List.getElem?_cons_succ, List.getElem?_cons_zero]; exact rfl)
      rw [if_pos (by kernel_rfl)]
      go_simp
      refine (HC1.out _ (by repeat (first | exact Below.refl _ _ | (with_reducible apply below_drewN) | (with_reducible apply Below.drew)))).mono ?_
      rintro e v1 ⟨n5, A5, l5, k5, x5, rfl, hR, hW⟩
      have hb : Below v0.heap.size v0 v1 := Below.trans (by repeat (first | exact Below.refl _ _ | (with_reducible apply below_drewN) | (with_reducible apply Below.drew))) hW
      have E1 := Lib.hid (H5.out.below hb)
      have R1 := Lib.hid hR
      clear hR hW hb HC1
      have HC2 := Lib.hid (fun (W : World) (hW : Below v1.heap.size v1 W) => cmp_c 2148 w.heap.size 5000 X ((-numV 9218868437227405311) * ((2 ^ 1074 : Nat) : Int)) n1 n5 A1 A5 l1 l5 k1 k5 x1 x5 W (Nat.le_trans E1.out.bel.size hW.size) (E1.out.x.2.below hW) ((R1.out.below hW).raise 1074) HXB.out (raise_bd (by rw [Int.natAbs_neg]; exact numV_bd (u := 9218868437227405311) (by decide))) (by decide) (by decide))
      rw [HX1.out] at HC2
      go_wp2_with fail
      clear hHeld
      refine hK.out _ _ E1.out (fun hHeld => ?_)
      clear hK K
      try simp only [Act.put, List.setIfInBounds_toArray, List.set_cons_zero, List.set_cons_succ]
      refine wpAnyH_ready (rs := [4]) (by kernel_rfl) (by simp) ?_
      refine AllReadyH.cons (o := ?y4O4) ?y4I4 (fun K hK => ?y4R4) AllReadyH.nil
      case y4I4 => (simp only [List.getElem?_toArray, List.getElem?_cons_succ, List.getElem?_cons_zero]; exact rfl)
      rw [if_pos (by kernel_rfl)]
      go_simp
      refine (HC2.out _ (by repeat (first | exact Below.refl _ _ | (with_reducible apply below_drewN) | (with_reducible apply Below.drew)))).mono ?_
      rintro e v2 ⟨rfl, hW⟩
      have hb : Below v1.heap.size v1 v2 := Below.trans (by repeat (first | exact Below.refl _ _ | (with_reducible apply below_drewN) | (with_reducible apply Below.drew))) hW
      have E2 := Lib.hid (E1.out.below hb)
      clear hW hb HC2
      have HC3 := Lib.hid (fun (W : World) (hW : Below v2.heap.size v2 W) => cmp_c 2148 w.heap.size 5000 X (numV 9218868437227405311 * ((2 ^ 1074 : Nat) : Int)) n1 n2 A1 A2 l1 l2 k1 k2 x1 x2 W (Nat.le_trans E2.out.bel.size hW.size) (E2.out.x.2.below hW) ((E2.out.t.2.below hW).raise 1074) HXB.out (raise_bd (numV_bd (u := 9218868437227405311) (by decide))) (by decide) (by decide))
      rw [HX2.out] at HC3
      go_wp2_with fail
      clear hHeld
      refine hK.out _ _ E2.out (fun hHeld => ?_)
      clear hK K
      try simp only [Act.put, List.setIfInBounds_toArray, List.set_cons_zero, List.set_cons_succ]
      refine wpAnyH_take (i := 5) (oi := ?y4O5) (v := ?y4V5) ?y4I5 (by kernel_rfl) (by kernel_rfl) (by kernel_rfl) ?y4Q5 (Or.inl ⟨?y4W5, ?y4Y5⟩) hHeld ?y4R5
      case y4I5 => (simp only [List.getElem?_toArray, List.getElem?_cons_succ, List.getElem?_cons_zero]; exact rfl)
      case y4Q5 => exact fun _ _ _ h => h
      case y4W5 => kernel_rfl
      case y4Y5 => (intro W hSw; clear hSw; go_simp; try with_reducible rfl)
      try simp only [Act.put, List.setIfInBounds_toArray, List.set_cons_zero, List.set_cons_succ]
      refine wpAnyH_take (i := 6) (oi := ?y4O6) (v := ?y4V6) ?y4I6 (by kernel_rfl) (by kernel_rfl) (by kernel_rfl) ?y4Q6 (Or.inl ⟨?y4W6, ?y4Y6⟩) hHeld ?y4R6
      case y4I6 => (simp only [List.getElem?_toArray, List.getElem?_cons_succ, List.getElem?_cons_zero]; exact rfl)
      case y4Q6 => exact fun _ _ _ h => h
      case y4W6 => kernel_rfl
      case y4Y6 => (intro W hSw; clear hSw; go_simp; try with_reducible rfl)
      try simp only [Act.put, List.setIfInBounds_toArray, List.set_cons_zero, List.set_cons_succ]
      refine wpAnyH_take (i := 7) (oi := ?y4O7) (v := ?y4V7) ?y4I7 (by kernel_rfl) (by kernel_rfl) (by kernel_rfl) ?y4Q7 (Or.inl ⟨?y4W7, ?y4Y7⟩) hHeld ?y4R7
      case y4I7 => (simp only [List.getElem?_toArray, List.getElem?_cons_succ, List.getElem?_cons_zero]; exact rfl)
      case y4Q7 => exact fun _ _ _ h => h
      case y4W7 => kernel_rfl
      case y4Y7 => (intro W hSw; clear hSw; go_simp; try with_reducible rfl)
      try simp only [Act.put, List.setIfInBounds_toArray, List.set_cons_zero, List.set_cons_succ]
      refine wpAnyH_take (i := 8) (oi := ?y4O8) (v := ?y4V8) ?y4I8 (by kernel_rfl) (by kernel_rfl) (by kernel_rfl) ?y4Q8 (Or.inl ⟨?y4W8, ?y4Y8⟩) hHeld ?y4R8
      case y4I8 => (simp only [List.getElem?_toArray, List.getElem?_cons_succ, List.getElem?_cons_zero]; exact rfl)
      case y4Q8 => exact fun _ _ _ h => h
      case y4W8 => kernel_rfl
      case y4Y8 => (intro W hSw; clear hSw; go_simp; try with_reducible rfl)
      try simp only [Act.put, List.setIfInBounds_toArray, List.set_cons_zero, List.set_cons_succ]
      refine wpAnyH_take (i := 9) (oi := ?y4O9) (v := ?y4V9) ?y4I9 (by kernel_rfl) (by kernel_rfl) (by kernel_rfl) ?y4Q9 (Or.inl ⟨?y4W9, ?y4Y9⟩) hHeld ?y4R9
      case y4I9 => (simp only [List.getElem?_toArray, List.getElem?_cons_succ, List.getElem?_cons_zero]; exact rfl)
      case y4Q9 => exact fun _ _ _ h => h
      case y4W9 => kernel_rfl
      case y4Y9 => (intro W hSw; obtain ⟨c0, c1, c2⟩ := hSw.x.cells; go_simp; try with_reducible rfl)
      try simp only [Act.put, List.setIfInBounds_toArray, List.set_cons_zero, List.set_cons_succ]
      refine wpAnyH_take (i := 10) (oi := ?y4O10) (v := ?y4V10) ?y4I10 (by kernel_rfl) (by kernel_rfl) (by kernel_rfl) ?y4Q10 (Or.inl ⟨?y4W10, ?y4Y10⟩) hHeld ?y4R10
      case y4I10 => (simp only [List.getElem?_toArray, List.getElem?_cons_succ, List.getElem?_cons_zero]; exact rfl)
      case y4Q10 => exact fun _ _ _ h => h
      case y4W10 => kernel_rfl
      case y4Y10 => (intro W hSw; obtain ⟨c0, c1, c2⟩ := hSw.t.cells; go_simp; try with_reducible rfl)
      try simp only [Act.put, List.setIfInBounds_toArray, List.set_cons_zero, List.set_cons_succ]
      refine wpAnyH_ready (rs := [11]) (by kernel_rfl) (by simp) ?_
      refine AllReadyH.cons (o := ?y4O11) ?y4I11 (fun K hK => ?y4R11) AllReadyH.nil
      case y4I11 => (simp only [List.getElem?_toArray, List.getElem?_cons_succ, List.getElem?_cons_zero]; exact rfl)
      rw [if_pos (by kernel_rfl)]
      go_simp
      refine (HC3.out _ (by repeat (first | exact Below.refl _ _ | (with_reducible apply below_drewN) | (with_reducible apply Below.drew)))).mono ?_
      rintro e v3 ⟨rfl, hW⟩
      have hb : Below v2.heap.size v2 v3 := Below.trans (by repeat (first | exact Below.refl _ _ | (with_reducible apply below_drewN) | (with_reducible apply Below.drew))) hW
      have E3 := Lib.hid (E2.out.below hb)
      clear hW hb HC3
      go_wp2_with fail
      clear hHeld
      refine hK.out _ _ E3.out (fun hHeld => ?_)
      clear hK K
      try simp only [Act.put, List.setIfInBounds_toArray, List.set_cons_zero, List.set_cons_succ]
      refine wpAnyH_take (i := 12) (oi := ?y4O12) (v := ?y4V12) ?y4I12 (by kernel_rfl) (by kernel_rfl) (by kernel_rfl) ?y4Q12 (Or.inl ⟨?y4W12, ?y4Y12⟩) hHeld ?y4R12
      case y4I12 => (simp only [List.getElem?_toArray, List.getElem?_cons_succ, List.getElem?_cons_zero]; exact rfl)
      case y4Q12 => exact fun _ _ _ h => h
      case y4W12 => kernel_rfl
      case y4Y12 => (intro W hSw; clear hSw; go_simp; try with_reducible rfl)
      try simp only [Act.put, List.setIfInBounds_toArray, List.set_cons_zero, List.set_cons_succ]
      refine wpAnyH_take (i := 13) (oi := ?y4O13) (v := ?y4V13) ?y4I13 (by kernel_rfl) (by kernel_rfl) (by kernel_rfl) ?y4Q13 (Or.inl ⟨?y4W13, ?y4Y13⟩) hHeld ?y4R13
      case y4I13 => (simp only [List.getElem?_toArray, List.getElem?_cons_succ, List.getElem?_cons_zero]; exact rfl)
      case y4Q13 => exact fun _ _ _ h => h
      case y4W13 => kernel_rfl
      case y4Y13 => (intro W hSw; clear hSw; go_simp; try with_reducible rfl)
      try simp only [Act.put, List.setIfInBounds_toArray, List.set_cons_zero, List.set_cons_succ]
      refine wpAnyH_take (i := 14) (oi := ?y4O14) (v := ?y4V14) ?y4I14 (by kernel_rfl) (by kernel_rfl) (by kernel_rfl) ?y4Q14 (Or.inl ⟨?y4W14, ?y4Y14⟩) hHeld ?y4R14
      case y4I14 => (simp only [List.getElem?_toArray, List.getElem?_cons_succ, List.getElem?_cons_zero]; exact rfl)
      case y4Q14 => exact fun _ _ _ h => h
      case y4W14 => kernel_rfl
      case y4Y14 => (intro W hSw; clear hSw; go_simp; try with_reducible rfl)
      try simp only [Act.put, List.setIfInBounds_toArray, List.set_cons_zero, List.set_cons_succ]
      refine wpAnyH_done (by kernel_rfl) ?_ _
      refine NoPanic.normal ?_
      go_wp2_with fail
      go_meet
      exact ⟨rfl, E3⟩
    · refine wp_region_noPanic ?_
      refine wp_region_held_drew (S := (fun wx => Two w wx w.heap.size w1.heap.size w5.heap.size X (numV 9218868437227405311) n1 n2 A1 A2 l1 l2 k1 k2 x1 x2)) (by kernel_rfl) (H5.out.below (by repeat (first | exact Below.refl _ _ | (with_reducible apply below_drewN) | (with_reducible apply Below.drew)))) (fun hHeld => ?_)
      change wpAnyH _ _ _ _ _ 15 _ _ _
      refine wpAnyH_take (i := 0) (oi := ?y5O0) (v := ?y5V0) ?y5I0 (by kernel_rfl) (by kernel_rfl) (by kernel_rfl) ?y5Q0 (Or.inl ⟨?y5W0, ?y5Y0⟩) hHeld ?y5R0
      case y5I0 => (simp only [List.getElem?_toArray, List.getElem?_cons_succ, List.getElem?_cons_zero]; exact rfl)
      case y5Q0 => exact fun _ _ _ h => h
      case y5W0 => kernel_rfl
      case y5Y0 => (intro W hSw; clear hSw; go_simp; try with_reducible rfl)
      try simp only [Act.put, List.setIfInBounds_toArray, List.set_cons_zero, List.set_cons_succ]
      refine wpAnyH_take (i := 1) (oi := ?y5O1) (v := ?y5V1) ?y5I1 (by kernel_rfl) (by kernel_rfl) (by kernel_rfl) ?y5Q1 (Or.inl ⟨?y5W1, ?y5Y1⟩) hHeld ?y5R1
      case y5I1 => (simp only [List.getElem?_toArray, List.getElem?_cons_succ, List.getElem?_cons_zero]; exact rfl)
      case y5Q1 => exact fun _ _ _ h => h
      case y5W1 => kernel_rfl
      case y5Y1 => (intro W hSw; obtain ⟨c0, c1, c2⟩ := hSw.x.cells; go_simp; try with_reducible rfl)
      try simp only [Act.put, List.setIfInBounds_toArray, List.set_cons_zero, List.set_cons_succ]
      refine wpAnyH_take (i := 2) (oi := ?y5O2) (v := ?y5V2) ?y5I2 (by kernel_rfl) (by kernel_rfl) (by kernel_rfl) ?y5Q2 (Or.inl ⟨?y5W2, ?y5Y2⟩) hHeld ?y5R2
      case y5I2 => (simp only [List.getElem?_toArray, List.getElem?_cons_succ, List.getElem?_cons_zero]; exact rfl)
      case y5Q2 => exact fun _ _ _ h => h
      case y5W2 => kernel_rfl
      case y5Y2 => (intro W hSw; obtain ⟨c0, c1, c2⟩ := hSw.t.cells; go_simp; try with_reducible rfl)
      try simp only [Act.put, List.setIfInBounds_toArray, List.set_cons_zero, List.set_cons_succ]
      refine wpAnyH_ready (rs := [3]) (by kernel_rfl) (by simp) ?_
      refine AllReadyH.cons (o := ?y5O3) ?y5I3 (fun K hK => ?y5R3) AllReadyH.nil
      case y5I3 => (simp only [List.getElem?_toArray, List.getElem?_cons_succ, List.getElem?_cons_zero]; exact rfl)
      rw [if_pos (by kernel_rfl)]
      go_simp
      refine (HC1.out _ (by repeat (first | exact Below.refl _ _ | (with_reducible apply below_drewN) | (with_reducible apply Below.drew)))).mono ?_
      rintro e v1 ⟨n5, A5, l5, k5, x5, rfl, hR, hW⟩
      have hb : Below v0.heap.size v0 v1 := Below.trans (by repeat (first | exact Below.refl _ _ | (with_reducible apply below_drewN) | (with_reducible apply Below.drew))) hW
      have E1 := Lib.hid (H5.out.below hb)
      have R1 := Lib.hid hR
      clear hR hW hb HC1
      have HC2 := Lib.hid (fun (W : World) (hW : Below v1.heap.size v1 W) => cmp_c 2148 w.heap.size 5000 X ((-numV 9218868437227405311) * ((2 ^ 1074 : Nat) : Int)) n1 n5 A1 A5 l1 l5 k1 k5 x1 x5 W (Nat.le_trans E1.out.bel.size hW.size) (E1.out.x.2.below hW) ((R1.out.below hW).raise 1074) HXB.out (raise_bd (by rw [Int.natAbs_neg]; exact numV_bd (u := 9218868437227405311) (by decide))) (by decide) (by decide))
      rw [HX1.out] at HC2
      go_wp2_with fail
      clear hHeld
      refine hK.out _ _ E1.out (fun hHeld => ?_)
      clear hK K
      try simp only [Act.put, List.setIfInBounds_toArray, List.set_cons_zero, List.set_cons_succ]
      refine wpAnyH_ready (rs := [4]) (by kernel_rfl) (by simp) ?_
      refine AllReadyH.cons (o := ?y5O4) ?y5I4 (fun K hK => ?y5R4) AllReadyH.nil
      case y5I4 => (simp only [List.getElem?_toArray, List.getElem?_cons_succ, List.getElem?_cons_zero]; exact rfl)
      rw [if_pos (by kernel_rfl)]
      go_simp
      refine (HC2.out _ (by repeat (first | exact Below.refl _ _ | (with_reducible apply below_drewN) | (with_reducible apply Below.drew)))).mono ?_
      rintro e v2 ⟨rfl, hW⟩
      have hb : Below v1.heap.size v1 v2 := Below.trans (by repeat (first | exact Below.refl _ _ | (with_reducible apply below_drewN) | (with_reducible apply Below.drew))) hW
      have E2 := Lib.hid (E1.out.below hb)
      clear hW hb HC2
      have HC3 := Lib.hid (fun (W : World) (hW : Below v2.heap.size v2 W) => cmp_c 2148 w.heap.size 5000 X (numV 9218868437227405311 * ((2 ^ 1074 : Nat) : Int)) n1 n2 A1 A2 l1 l2 k1 k2 x1 x2 W (Nat.le_trans E2.out.bel.size hW.size) (E2.out.x.2.below hW) ((E2.out.t.2.below hW).raise 1074) HXB.out (raise_bd (numV_bd (u := 9218868437227405311) (by decide))) (by decide) (by decide))
      rw [HX2.out] at HC3
      go_wp2_with fail
      clear hHeld
      refine hK.out _ _ E2.out (fun hHeld => ?_)
      clear hK K
      try simp only [Act.put, List.setIfInBounds_toArray, List.set_cons_zero, List.set_cons_succ]
      refine wpAnyH_take (i := 5) (oi := ?y5O5) (v := ?y5V5) ?y5I5 (by kernel_rfl) (by kernel_rfl) (by kernel_rfl) ?y5Q5 (Or.inl ⟨?y5W5, ?y5Y5⟩) hHeld ?y5R5
      case y5I5 => (simp only [List.getElem?_toArray, List.getElem?_cons_succ, List.getElem?_cons_zero]; exact rfl)
      case y5Q5 => exact fun _ _ _ h => h
      case y5W5 => kernel_rfl
      case y5Y5 => (intro W hSw; clear hSw; go_simp; try with_reducible rfl)
      try simp only [Act.put, List.setIfInBounds_toArray, List.set_cons_zero, List.set_cons_succ]
      refine wpAnyH_take (i := 6) (oi := ?y5O6) (v := ?y5V6) ?y5I6 (by kernel_rfl) (by kernel_rfl) (by kernel_rfl) ?y5Q6 (Or.inl ⟨?y5W6, ?y5Y6⟩) hHeld ?y5R6
      case y5I6 => (simp only [List.getElem?_toArray, List.getElem?_cons_succ, List.getElem?_cons_zero]; exact rfl)
      case y5Q6 => exact fun _ _ _ h => h
      case y5W6 => kernel_rfl
      case y5Y6 => (intro W hSw; clear hSw; go_simp; try with_reducible rfl)
      try simp only [Act.put, List.setIfInBounds_toArray, List.set_cons_zero, List.set_cons_succ]
      refine wpAnyH_take (i := 7) (oi := ?y5O7) (v := ?y5V7) ?y5I7 (by kernel_rfl) (by kernel_rfl) (by kernel_rfl) ?y5Q7 (Or.inl ⟨?y5W7, ?y5Y7⟩) hHeld ?y5R7
      case y5I7 => (simp only [List.getElem?_toArray, List.getElem?_cons_succ, List.getElem?_cons_zero]; exact rfl)
      case y5Q7 => exact fun _ _ _ h => h
      case y5W7 => kernel_rfl
      case y5Y7 => (intro W hSw; clear hSw; go_simp; try with_reducible rfl)
      try simp only [Act.put, List.setIfInBounds_toArray, List.set_cons_zero, List.set_cons_succ]
      refine wpAnyH_take (i := 8) (oi := ?y5O8) (v := ?y5V8) ?y5I8 (by kernel_rfl) (by kernel_rfl) (by kernel_rfl) ?y5Q8 (Or.inl ⟨?y5W8, ?y5Y8⟩) hHeld ?y5R8
      case y5I8 => (simp only [List.getElem?_toArray, List.getElem?_cons_succ, List.getElem?_cons_zero]; exact rfl)
      case y5Q8 => exact fun _ _ _ h => h
      case y5W8 => kernel_rfl
      case y5Y8 => (intro W hSw; clear hSw; go_simp; try with_reducible rfl)
      try simp only [Act.put, List.setIfInBounds_toArray, List.set_cons_zero, List.set_cons_succ]
      refine wpAnyH_take (i := 9) (oi := ?y5O9) (v := ?y5V9) ?y5I9 (by kernel_rfl) (by kernel_rfl) (by kernel_rfl) ?y5Q9 (Or.inl ⟨?y5W9, ?y5Y9⟩) hHeld ?y5R9
      case y5I9 => (simp only [List.getElem?_toArray, List.getElem?_cons_succ, List.getElem?_cons_zero]; exact rfl)
      case y5Q9 => exact fun _ _ _ h => h
      case y5W9 => kernel_rfl
      case y5Y9 => (intro W hSw; obtain ⟨c0, c1, c2⟩ := hSw.x.cells; go_simp; try with_reducible rfl)
      try simp only [Act.put, List.setIfInBounds_toArray, List.set_cons_zero, List.set_cons_succ]
      refine wpAnyH_take (i := 10) (oi := ?y5O10) (v := ?y5V10) ?y5I10 (by kernel_rfl) (by kernel_rfl) (by kernel_rfl) ?y5Q10 (Or.inl ⟨?y5W10, ?y5Y10⟩) hHeld ?y5R10
      case y5I10 => (simp only [List.getElem?_toArray, List.getElem?_cons_succ, List.getElem?_cons_zero]; exact rfl)
      case y5Q10 => exact fun _ _ _ h => h
      case y5W10 => kernel_rfl
      case y5Y10 => (intro W hSw; obtain ⟨c0, c1, c2⟩ := hSw.t.cells; go_simp; try with_reducible rfl)
      try simp only [Act.put, List.setIfInBounds_toArray, List.set_cons_zero, List.set_cons_succ]
      refine wpAnyH_ready (rs := [11]) (by kernel_rfl) (by simp) ?_
      refine AllReadyH.cons (o := ?y5O11) ?y5I11 (fun K hK => ?y5R11) AllReadyH.nil
      case y5I11 => (simp only [List.getElem?_toArray, List.getElem?_cons_succ, List.getElem?_cons_zero]; exact rfl)
      rw [if_pos (by kernel_rfl)]
      go_simp
      refine (HC3.out _ (by repeat (first | exact Below.refl _ _ | (with_reducible apply below_drewN) | (with_reducible apply Below.drew)))).mono ?_
      rintro e v3 ⟨rfl, hW⟩
      have hb : Below v2.heap.size v2 v3 := Below.trans (by repeat (first | exact Below.refl _ _ | (with_reducible apply below_drewN) | (with_reducible apply Below.drew))) hW
      have E3 := Lib.hid (E2.out.below hb)
      clear hW hb HC3
      go_wp2_with fail
      clear hHeld
      refine hK.out _ _ E3.out (fun hHeld => ?_)
      clear hK K
      try simp only [Act.put, List.setIfInBounds_toArray, List.set_cons_zero, List.set_cons_succ]
      refine wpAnyH_take (i := 12) (oi := ?y5O12) (v := ?y5V12) ?y5I12 (by kernel_rfl) (by kernel_rfl) (by kernel_rfl) ?y5Q12 (Or.inl ⟨?y5W12, ?y5Y12⟩) hHeld ?y5R12
      case y5I12 => (simp only [List.getElem?_toArray, List.getElem?_cons_succ, List.getElem?_cons_zero]; exact rfl)
      case y5Q12 => exact fun _ _ _ h => h
      case y5W12 => kernel_rfl
      case y5Y12 => (intro W hSw; clear hSw; go_simp; try with_reducible rfl)
      try simp only [Act.put, List.setIfInBounds_toArray, List.set_cons_zero, List.set_cons_succ]
      refine wpAnyH_take (i := 13) (oi := ?y5O13) (v := ?y5V13) ?y5I13 (by kernel_rfl) (by kernel_rfl) (by kernel_rfl) ?y5Q13 (Or.inl ⟨?y5W13, ?y5Y13⟩) hHeld ?y5R13
      case y5I13 => (simp only [List.getElem?_toArray, List.getElem?_cons_succ, List.getElem?_cons_zero]; exact rfl)
      case y5Q13 => exact fun _ _ _ h => h
      case y5W13 => kernel_rfl
      case y5Y13 => (intro W hSw; clear hSw; go_simp; try with_reducible rfl)
      try simp only [Act.put, List.setIfInBounds_toArray, List.set_cons_zero, List.set_cons_succ]
      refine wpAnyH_take (i := 14) (oi := ?y5O14) (v := ?y5V14) ?y5I14 (by kernel_rfl) (by kernel_rfl) (by kernel_rfl) ?y5Q14 (Or.inl ⟨?y5W14, ?y5Y14⟩) hHeld ?y5R14
      case y5I14 => (simp only [List.getElem?_toArray, List.getElem?_cons_succ, List.getElem?_cons_zero]; exact rfl)
      case y5Q14 => exact fun _ _ _ h => h
      case y5W14 => kernel_rfl
      case y5Y14 => (intro W hSw; clear hSw; go_simp; try with_reducible rfl)
      try simp only [Act.put, List.setIfInBounds_toArray, List.set_cons_zero, List.set_cons_succ]
      refine wpAnyH_done (by kernel_rfl) ?_ _
      refine NoPanic.normal ?_
      go_wp2_with fail
      go_meet
      exact ⟨rfl, E3⟩
  case rest =>
    obtain ⟨rfl, hG1⟩ := hcut
    obtain ⟨u1, rfl⟩ : ∃ wo : World, wo = wc := ⟨_, rfl⟩
    have G1 := Lib.hid hG1.out
    clear hG1
    clear hl hh HCS
    obtain ⟨zs, hzs⟩ : ∃ z, (18442240474082181119 : Nat) = z := ⟨_, rfl⟩
    have HSZ : Hid (((numV zs).natAbs : Int) = numV 9218868437227405311) := by rw [← hzs]; exact top_nn.2
    have HSU : Hid (zs < 18446744073709551616) := Lib.hid (by rw [← hzs]; decide)
    rw [hzs] at hadd
    go_wp2_with fail
    refine (lnum_calls zs w.heap.size _ HSU.out G1.out.bel.size).mono ?_
    rintro e w6 ⟨n3, A3, l3, k3, x3, rfl, hR, hW⟩
    have hB := below_new (Below.refl w6.heap.size w6) (.cells #[.bool n3, .slice A3 l3 k3, .int .i64 x3] 25)
    have hb1 := below_next hW hB
    have H6 : Hid (Thr w (w6.alloc (.cells #[.bool n3, .slice A3 l3 k3, .int .i64 x3] 25)) w.heap.size w1.heap.size w5.heap.size w6.heap.size X (numV 9218868437227405311) (numV zs) n1 n2 n3 A1 A2 A3 l1 l2 l3 k1 k2 k3 x1 x2 x3) := ⟨G1.out.x.below hb1, G1.out.t.below hb1, NK.new hR, below_next G1.out.bel hb1⟩
    clear hR hW hB hb1 G1
    clear hzs
    have HD0 : Hid (Int.sign (((numV zs).natAbs : Int) - numV 9218868437227405311) = 0) := by rw [Hid, HSZ.out, Int.sub_self]; rfl
    go_upto_region 13 with fail
    obtain ⟨v0, hv0⟩ : ∃ W, W = (w6.alloc (.cells #[.bool n3, .slice A3 l3 k3, .int .i64 x3] 25)) := ⟨_, rfl⟩
    rw [← hv0] at H6 ⊢
    clear hv0
    have HC1 := Lib.hid (fun (W : World) (hW : Below v0.heap.size v0 W) => size_c 1074 w.heap.size (numV zs) n3 A3 l3 k3 x3 W (H6.out.s.2.below hW))
    refine wp_region_noPanic ?_
    refine wp_region_held_drew (S := (fun wx => Thr w wx w.heap.size w1.heap.size w5.heap.size w6.heap.size X (numV 9218868437227405311) (numV zs) n1 n2 n3 A1 A2 A3 l1 l2 l3 k1 k2 k3 x1 x2 x3)) (by kernel_rfl) (H6.out.below (by repeat (first | exact Below.refl _ _ | (with_reducible apply below_drewN) | (with_reducible apply Below.drew)))) (fun hHeld => ?_)
    change wpAnyH _ _ _ _ _ 16 _ _ _
    refine wpAnyH_take (i := 0) (oi := ?y6O0) (v := ?y6V0) ?y6I0 (by kernel_rfl) (by kernel_rfl) (by kernel_rfl) ?y6Q0 (Or.inl ⟨?y6W0, ?y6Y0⟩) hHeld ?y6R0
    case y6I0 => (simp only [List.getElem?_toArray, List.getElem?_cons_succ, List.getElem?_cons_zero]; exact rfl)
    case y6Q0 => exact fun _ _ _ h => h
    case y6W0 => kernel_rfl
    case y6Y0 => (intro W hSw; obtain ⟨c0, c1, c2⟩ := hSw.s.cells; go_simp; try with_reducible rfl)
    try simp only [Act.put, List.setIfInBounds_toArray, List.set_cons_zero, List.set_cons_succ]
    refine wpAnyH_take (i := 2) (oi := ?y6O2) (v := ?y6V2) ?y6I2 (by kernel_rfl) (by kernel_rfl) (by kernel_rfl) ?y6Q2 (Or.inl ⟨?y6W2, ?y6Y2⟩) hHeld ?y6R2
    case y6I2 => (simp only [List.getElem?_toArray, List.getElem?_cons_succ, List.getElem?_cons_zero]; exact rfl)
    case y6Q2 => exact fun _ _ _ h => h
    case y6W2 => kernel_rfl
    case y6Y2 => (intro W hSw; obtain ⟨c0, c1, c2⟩ := hSw.t.cells; go_simp; try with_reducible rfl)
    try simp only [Act.put, List.setIfInBounds_toArray, List.set_cons_zero, List.set_cons_succ]
    refine wpAnyH_ready (rs := [1]) (by kernel_rfl) (by simp) ?_
    refine AllReadyH.cons (o := ?y6O1) ?y6I1 (fun K hK => ?y6R1) AllReadyH.nil
    case y6I1 => (simp only [List.getElem?_toArray, List.getElem?_cons_succ, List.getElem?_cons_zero]; exact rfl)
    rw [if_pos (by kernel_rfl)]
    go_simp
    refine (HC1.out _ (by repeat (first | exact Below.refl _ _ | (with_reducible apply below_drewN) | (with_reducible apply Below.drew)))).mono ?_
    rintro e v1 ⟨n5, A5, l5, k5, x5, rfl, hR, hW⟩
    have hb : Below v0.heap.size v0 v1 := Below.trans (by repeat (first | exact Below.refl _ _ | (with_reducible apply below_drewN) | (with_reducible apply Below.drew))) hW
    have E1 := Lib.hid (H6.out.below hb)
    have R1 := Lib.hid hR
    clear hR hW hb HC1
    have HC2 := Lib.hid (fun (W : World) (hW : Below v1.heap.size v1 W) => cmp_c 1074 w.heap.size 2098 ((numV zs).natAbs : Int) (numV 9218868437227405311) n5 n2 A5 A2 l5 l2 k5 k2 x5 x2 W (Nat.le_trans E1.out.bel.size hW.size) (R1.out.below hW) (E1.out.t.2.below hW) (by rw [Int.natAbs_natCast]; exact numV_bd HSU.out) (numV_bd (u := 9218868437227405311) (by decide)) (by decide) (by decide))
    rw [HD0.out] at HC2
    go_wp2_with fail
    clear hHeld
    refine hK.out _ _ E1.out (fun hHeld => ?_)
    clear hK K
    try simp only [Act.put, List.setIfInBounds_toArray, List.set_cons_zero, List.set_cons_succ]
    refine wpAnyH_ready (rs := [3]) (by kernel_rfl) (by simp) ?_
    refine AllReadyH.cons (o := ?y6O3) ?y6I3 (fun K hK => ?y6R3) AllReadyH.nil
    case y6I3 => (simp only [List.getElem?_toArray, List.getElem?_cons_succ, List.getElem?_cons_zero]; exact rfl)
    rw [if_pos (by kernel_rfl)]
    go_simp
    refine (HC2.out _ (by repeat (first | exact Below.refl _ _ | (with_reducible apply below_drewN) | (with_reducible apply Below.drew)))).mono ?_
    rintro e v2 ⟨rfl, hW⟩
    have hb : Below v1.heap.size v1 v2 := Below.trans (by repeat (first | exact Below.refl _ _ | (with_reducible apply below_drewN) | (with_reducible apply Below.drew))) hW
    have E2 := Lib.hid (E1.out.below hb)
    clear hW hb HC2
    have HC3 := Lib.hid (fun (W : World) (hW : Below v2.heap.size v2 W) => size_c 2148 w.heap.size X n1 A1 l1 k1 x1 W (E2.out.x.2.below hW))
    go_wp2_with fail
    clear hHeld
    refine hK.out _ _ E2.out (fun hHeld => ?_)
    clear hK K
    try simp only [Act.put, List.setIfInBounds_toArray, List.set_cons_zero, List.set_cons_succ]
    refine wpAnyH_take (i := 4) (oi := ?y6O4) (v := ?y6V4) ?y6I4 (by kernel_rfl) (by kernel_rfl) (by kernel_rfl) ?y6Q4 (Or.inl ⟨?y6W4, ?y6Y4⟩) hHeld ?y6R4
    case y6I4 => (simp only [List.getElem?_toArray, List.getElem?_cons_succ, List.getElem?_cons_zero]; exact rfl)
    case y6Q4 => exact fun _ _ _ h => h
    case y6W4 => kernel_rfl
    case y6Y4 => (intro W hSw; clear hSw; go_simp; try with_reducible rfl)
    try simp only [Act.put, List.setIfInBounds_toArray, List.set_cons_zero, List.set_cons_succ]
    refine wpAnyH_take (i := 5) (oi := ?y6O5) (v := ?y6V5) ?y6I5 (by kernel_rfl) (by kernel_rfl) (by kernel_rfl) ?y6Q5 (Or.inl ⟨?y6W5, ?y6Y5⟩) hHeld ?y6R5
    case y6I5 => (simp only [List.getElem?_toArray, List.getElem?_cons_succ, List.getElem?_cons_zero]; exact rfl)
    case y6Q5 => exact fun _ _ _ h => h
    case y6W5 => kernel_rfl
    case y6Y5 => (intro W hSw; clear hSw; go_simp; try with_reducible rfl)
    try simp only [Act.put, List.setIfInBounds_toArray, List.set_cons_zero, List.set_cons_succ]
    refine wpAnyH_take (i := 6) (oi := ?y6O6) (v := ?y6V6) ?y6I6 (by kernel_rfl) (by kernel_rfl) (by kernel_rfl) ?y6Q6 (Or.inl ⟨?y6W6, ?y6Y6⟩) hHeld ?y6R6
    case y6I6 => (simp only [List.getElem?_toArray, List.getElem?_cons_succ, List.getElem?_cons_zero]; exact rfl)
    case y6Q6 => exact fun _ _ _ h => h
    case y6W6 => kernel_rfl
    case y6Y6 => (intro W hSw; obtain ⟨c0, c1, c2⟩ := hSw.x.cells; go_simp; try with_reducible rfl)
    try simp only [Act.put, List.setIfInBounds_toArray, List.set_cons_zero, List.set_cons_succ]
    refine wpAnyH_take (i := 8) (oi := ?y6O8) (v := ?y6V8) ?y6I8 (by kernel_rfl) (by kernel_rfl) (by kernel_rfl) ?y6Q8 (Or.inl ⟨?y6W8, ?y6Y8⟩) hHeld ?y6R8
    case y6I8 => (simp only [List.getElem?_toArray, List.getElem?_cons_succ, List.getElem?_cons_zero]; exact rfl)
    case y6Q8 => exact fun _ _ _ h => h
    case y6W8 => kernel_rfl
    case y6Y8 => (intro W hSw; obtain ⟨c0, c1, c2⟩ := hSw.t.cells; go_simp; try with_reducible rfl)
    try simp only [Act.put, List.setIfInBounds_toArray, List.set_cons_zero, List.set_cons_succ]
    refine wpAnyH_ready (rs := [7]) (by kernel_rfl) (by simp) ?_
    refine AllReadyH.cons (o := ?y6O7) ?y6I7 (fun K hK => ?y6R7) AllReadyH.nil
    case y6I7 => (simp only [List.getElem?_toArray, List.getElem?_cons_succ, List.getElem?_cons_zero]; exact rfl)
    rw [if_pos (by kernel_rfl)]
    go_simp
    refine (HC3.out _ (by repeat (first | exact Below.refl _ _ | (with_reducible apply below_drewN) | (with_reducible apply Below.drew)))).mono ?_
    rintro e v3 ⟨n6, A6, l6, k6, x6, rfl, hR, hW⟩
    have hb : Below v2.heap.size v2 v3 := Below.trans (by repeat (first | exact Below.refl _ _ | (with_reducible apply below_drewN) | (with_reducible apply Below.drew))) hW
    have E3 := Lib.hid (E2.out.below hb)
    have R2 := Lib.hid hR
    clear hR hW hb HC3
    have HC4 := Lib.hid (fun (W : World) (hW : Below v3.heap.size v3 W) => cmp_c 2148 w.heap.size 5000 (X.natAbs : Int) (numV 9218868437227405311 * ((2 ^ 1074 : Nat) : Int)) n6 n2 A6 A2 l6 l2 k6 k2 x6 x2 W (Nat.le_trans E3.out.bel.size hW.size) (R2.out.below hW) ((E3.out.t.2.below hW).raise 1074) (by rw [Int.natAbs_natCast]; exact HXB.out) (raise_bd (numV_bd (u := 9218868437227405311) (by decide))) (by decide) (by decide))
    rw [HX4.out] at HC4
    go_wp2_with fail
    clear hHeld
    refine hK.out _ _ E3.out (fun hHeld => ?_)
    clear hK K
    try simp only [Act.put, List.setIfInBounds_toArray, List.set_cons_zero, List.set_cons_succ]
    refine wpAnyH_ready (rs := [9]) (by kernel_rfl) (by simp) ?_
    refine AllReadyH.cons (o := ?y6O9) ?y6I9 (fun K hK => ?y6R9) AllReadyH.nil
    case y6I9 => (simp only [List.getElem?_toArray, List.getElem?_cons_succ, List.getElem?_cons_zero]; exact rfl)
    rw [if_pos (by kernel_rfl)]
    go_simp
    refine (HC4.out _ (by repeat (first | exact Below.refl _ _ | (with_reducible apply below_drewN) | (with_reducible apply Below.drew)))).mono ?_
    rintro e v4 ⟨rfl, hW⟩
    have hb : Below v3.heap.size v3 v4 := Below.trans (by repeat (first | exact Below.refl _ _ | (with_reducible apply below_drewN) | (with_reducible apply Below.drew))) hW
    have E4 := Lib.hid (E3.out.below hb)
    clear hW hb HC4
    go_wp2_with fail
    clear hHeld
    refine hK.out _ _ E4.out (fun hHeld => ?_)
    clear hK K
    try simp only [Act.put, List.setIfInBounds_toArray, List.set_cons_zero, List.set_cons_succ]
    refine wpAnyH_take (i := 10) (oi := ?y6O10) (v := ?y6V10) ?y6I10 (by kernel_rfl) (by kernel_rfl) (by kernel_rfl) ?y6Q10 (Or.inl ⟨?y6W10, ?y6Y10⟩) hHeld ?y6R10
    case y6I10 => (simp only [List.getElem?_toArray, List.getElem?_cons_succ, List.getElem?_cons_zero]; exact rfl)
    case y6Q10 => exact fun _ _ _ h => h
    case y6W10 => kernel_rfl
    case y6Y10 => (intro W hSw; clear hSw; go_simp; try with_reducible rfl)
    try simp only [Act.put, List.setIfInBounds_toArray, List.set_cons_zero, List.set_cons_succ]
    refine wpAnyH_take (i := 11) (oi := ?y6O11) (v := ?y6V11) ?y6I11 (by kernel_rfl) (by kernel_rfl) (by kernel_rfl) ?y6Q11 (Or.inl ⟨?y6W11, ?y6Y11⟩) hHeld ?y6R11
    case y6I11 => (simp only [List.getElem?_toArray, List.getElem?_cons_succ, List.getElem?_cons_zero]; exact rfl)
    case y6Q11 => exact fun _ _ _ h => h
    case y6W11 => kernel_rfl
    case y6Y11 => (intro W hSw; clear hSw; go_simp; try with_reducible rfl)
    try simp only [Act.put, List.setIfInBounds_toArray, List.set_cons_zero, List.set_cons_succ]
    refine wpAnyH_take (i := 12) (oi := ?y6O12) (v := ?y6V12) ?y6I12 (by kernel_rfl) (by kernel_rfl) (by kernel_rfl) ?y6Q12 (Or.inl ⟨?y6W12, ?y6Y12⟩) hHeld ?y6R12
    case y6I12 => (simp only [List.getElem?_toArray, List.getElem?_cons_succ, List.getElem?_cons_zero]; exact rfl)
    case y6Q12 => exact fun _ _ _ h => h
    case y6W12 => kernel_rfl
    case y6Y12 => (intro W hSw; clear hSw; go_simp; try with_reducible rfl)
    try simp only [Act.put, List.setIfInBounds_toArray, List.set_cons_zero, List.set_cons_succ]
    refine wpAnyH_ready (rs := [13]) (by kernel_rfl) (by simp) ?_
    refine AllReadyH.cons (o := ?y6O13) ?y6I13 (fun K hK => ?y6R13) AllReadyH.nil
    case y6I13 => (simp only [List.getElem?_toArray, List.getElem?_cons_succ, List.getElem?_cons_zero]; exact rfl)
    rw [if_pos (by kernel_rfl)]
    go_simp
    refine (started_calls _).mono ?_
    rintro e v9 ⟨rfl, hW⟩
    have E5 := Lib.hid (E4.out.below (Below.trans (by repeat (first | exact Below.refl _ _ | (with_reducible apply below_drewN) | (with_reducible apply Below.drew))) hW))
    clear hW
    go_wp2_with fail
    clear hHeld
    refine hK.out _ _ E5.out (fun hHeld => ?_)
    clear hK K
    try simp only [Act.put, List.setIfInBounds_toArray, List.set_cons_zero, List.set_cons_succ]
    refine wpAnyH_take (i := 14) (oi := ?y6O14) (v := ?y6V14) ?y6I14 (by kernel_rfl) (by kernel_rfl) (by kernel_rfl) ?y6Q14 (Or.inl ⟨?y6W14, ?y6Y14⟩) hHeld ?y6R14
    case y6I14 => (simp only [List.getElem?_toArray, List.getElem?_cons_succ, List.getElem?_cons_zero]; exact rfl)
    case y6Q14 => exact fun _ _ _ h => h
    case y6W14 => kernel_rfl
    case y6Y14 => (intro W hSw; clear hSw; go_simp; try with_reducible rfl)
    try simp only [Act.put, List.setIfInBounds_toArray, List.set_cons_zero, List.set_cons_succ]
    refine wpAnyH_take (i := 15) (oi := ?y6O15) (v := ?y6V15) ?y6I15 (by kernel_rfl) (by kernel_rfl) (by kernel_rfl) ?y6Q15 (Or.inl ⟨?y6W15, ?y6Y15⟩) hHeld ?y6R15
    case y6I15 => (simp only [List.getElem?_toArray, List.getElem?_cons_succ, List.getElem?_cons_zero]; exact rfl)
    case y6Q15 => exact fun _ _ _ h => h
    case y6W15 => kernel_rfl
    case y6Y15 => (intro W hSw; clear hSw; go_simp; try with_reducible rfl)
    try simp only [Act.put, List.setIfInBounds_toArray, List.set_cons_zero, List.set_cons_succ]
    refine wpAnyH_done (by kernel_rfl) ?_ _
    refine NoPanic.normal ?_
    go_wp2
    go_ret
    exact ⟨rfl, E5.out.bel⟩
end Go.Proofs.YtikdhkmcdmnadaaGreatFmtBesafter
