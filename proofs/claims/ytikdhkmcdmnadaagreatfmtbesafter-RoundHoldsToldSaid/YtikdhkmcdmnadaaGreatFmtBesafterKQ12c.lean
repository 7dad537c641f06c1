import Derived.Test.YtikdhkmcdmnadaaGreatFmtBesafterKQ12a
set_option linter.unusedVariables false
set_option linter.unusedSimpArgs false
namespace Go.Proofs.YtikdhkmcdmnadaaGreatFmtBesafter
open Go.RowKit
attribute [local go_sem ↓] Go.wp_at_zero Go.wp_at_succ

/-! ### RoundHolds (printed by gen_q12.py) -/
set_option exponentiation.threshold 6000 in
set_option maxHeartbeats 8000000 in
set_option maxRecDepth 100000 in
theorem holds_eq (c k : Int) (u v zl zh zm : Nat) (X : Int) (hk : 1 + c.tmod 3 % 3 = k) (hk3 : k = 1 ∨ k = 2 ∨ k = 3)
    (hex : ∀ W base, base ≤ W.heap.size → Calls Tryz.prog 4 #[.int .i64 k, .float .f64 u, .float .f64 v] W fun e w' => ∃ (neg : Bool) (A : Option Addr) (n k : Nat) (x : Int), e = .returned (.tuple #[.agg #[.bool neg, .slice A n k, .int .i64 x], .bool true]) ∧ NumC 2148 w' base X neg A n k x ∧ Below W.heap.size W w')
    (hlo : ∀ W, Calls Tryz.prog 5 #[.int .i64 k, .int .i64 2, .float .f64 u, .float .f64 v] W fun e w' => e = .returned (.tuple #[.float .f64 zl, .bool true]) ∧ Below W.heap.size W w')
    (hhi : ∀ W, Calls Tryz.prog 5 #[.int .i64 k, .int .i64 1, .float .f64 u, .float .f64 v] W fun e w' => e = .returned (.tuple #[.float .f64 zh, .bool true]) ∧ Below W.heap.size W w')
    (hme : ∀ W, Calls Tryz.prog 5 #[.int .i64 k, .int .i64 0, .float .f64 u, .float .f64 v] W fun e w' => e = .returned (.tuple #[.float .f64 zm, .bool true]) ∧ Below W.heap.size W w')
    (hxb : X.natAbs < 2 ^ 5000) (c1 c2 : Int) (hc1 : Int.sign (X - -numV 9218868437227405311 * ((2 ^ 1074 : Nat) : Int)) = c1) (hc2 : Int.sign (X - numV 9218868437227405311 * ((2 ^ 1074 : Nat) : Int)) = c2) (hl : 0 ≤ c1) (hh : c2 ≤ 0) (hzl : zl < 18446744073709551616) (hzh : zh < 18446744073709551616) (d1 d2 lf : Int) (hd1 : Int.sign (numV zl * ((2 ^ 1074 : Nat) : Int) - X) = d1) (hd2 : Int.sign (X - numV zh * ((2 ^ 1074 : Nat) : Int)) = d2) (hlf : Int.sign ((X - numV zl * ((2 ^ 1074 : Nat) : Int)) - (numV zh * ((2 ^ 1074 : Nat) : Int) - X)) = lf) (g1 : ¬ 0 < d1) (g2 : ¬ 0 < d2) (he : (FloatKind.f64.format.order zl zh == some .eq) = true) (hm : (FloatKind.f64.format.order zm zl == some .eq) = true) (h0 : lf = 0)
    (w : World) :
    Calls Tryz.prog 3 #[.int .i64 c, .float .f64 u, .float .f64 v] w fun e w' => e = .returned (.bool true) ∧ Below w.heap.size w w' := by
  have HCS := Lib.hid (cs_in (by rw [← hc1]; exact sign_in _) (by rw [← hc2]; exact sign_in _) hl hh)
  have HXB := Lib.hid hxb
  have HX1 := Lib.hid hc1
  have HX2 := Lib.hid hc2
  have HX3 := Lib.hid hd1
  have HX5 := Lib.hid hd2
  have HX6 := Lib.hid hlf
  have HZB := Lib.hid (And.intro hzl hzh)
  have HBM := Lib.hid (fun W => apibits_calls zm W)
  have HEX := Lib.hid hex
  have HLO := Lib.hid hlo
  have HHI := Lib.hid hhi
  have HME := Lib.hid hme
  have hm1 : -2 ≤ c.tmod 3 ∧ c.tmod 3 ≤ 2 := by
    have := Int.tmod_lt_of_pos c (show (0 : Int) < 3 by decide)
    have := Int.lt_tmod_of_pos c (show (0 : Int) < 3 by decide)
    omega
  clear hex hlo hhi hme hxb hc1 hc2 hd1 hd2 hlf hzl hzh
  go_enter Tryz.func3, Tryz.ntmps3
  go_wp2_with fail
  try rw [hk]
  clear hk hk3 hm1
  refine (HEX.out w w.heap.size (Nat.le_refl _)).mono ?_
  rintro e w1 ⟨n1, A1, l1, k1, x1, rfl, hR, hW⟩
  have hB := below_new (Below.refl w1.heap.size w1) (.cells #[.bool n1, .slice A1 l1 k1, .int .i64 x1] 25)
  have H1 := Lib.hid (And.intro (NK.new hR) (below_next hW hB))
  clear hR hW hB
  go_wp2_with fail
  refine (HLO.out _).mono ?_
  rintro e w2 ⟨rfl, hW⟩
  have H2 := Lib.hid (And.intro (H1.out.1.below hW) (below_next H1.out.2 hW))
  clear hW H1
  go_wp2_with fail
  refine (HHI.out _).mono ?_
  rintro e w3 ⟨rfl, hW⟩
  have H3 := Lib.hid (And.intro (H2.out.1.below hW) (below_next H2.out.2 hW))
  clear hW H2
  go_wp2_with fail
  refine (HME.out _).mono ?_
  rintro e w4 ⟨rfl, hW⟩
  have H4 := Lib.hid (And.intro (H3.out.1.below hW) (below_next H3.out.2 hW))
  clear hW H3 HEX HLO HHI HME
  go_wp2_with fail
  refine (of_calls 9218868437227405311 w.heap.size w4 (by decide)).mono ?_
  rintro e w5 ⟨n2, A2, l2, k2, x2, rfl, hR, hW⟩
  have hB := below_new (Below.refl w5.heap.size w5) (.cells #[.bool n2, .slice A2 l2 k2, .int .i64 x2] 25)
  have hb1 := below_next hW hB
  have H5 : Hid (Two w (w5.alloc (.cells #[.bool n2, .slice A2 l2 k2, .int .i64 x2] 25)) w.heap.size w1.heap.size w5.heap.size X (numV 9218868437227405311) n1 n2 A1 A2 l1 l2 k1 k2 x1 x2) := ⟨H4.out.1.below hb1, NK.new hR, below_next H4.out.2 hb1⟩
  clear hR hW hB hb1 H4
  go_upto_region 9 with fail
  go_cut [105] (fun s wx => s = .bool false ∧ Hid (Two w wx w.heap.size w1.heap.size w5.heap.size X (numV 9218868437227405311) n1 n2 A1 A2 l1 l2 k1 k2 x1 x2))
  case first =>
    obtain ⟨v0, hv0⟩ : ∃ W, W = (w5.alloc (.cells #[.bool n2, .slice A2 l2 k2, .int .i64 x2] 25)) := ⟨_, rfl⟩
    rw [← hv0] at H5 ⊢
    clear hv0
    have HC1 := Lib.hid (fun (W : World) (hW : Below v0.heap.size v0 W) => turned_c 1074 w.heap.size (numV 9218868437227405311) n2 A2 l2 k2 x2 W (H5.out.t.2.below hW))
    rcases HCS.out with ⟨rfl, rfl⟩ | ⟨rfl, rfl⟩ | ⟨rfl, rfl⟩ | ⟨rfl, rfl⟩
    · refine wp_region_noPanic ?_
      refine wp_region_held_drew (S := (fun wx => Two w wx w.heap.size w1.heap.size w5.heap.size X (numV 9218868437227405311) n1 n2 A1 A2 l1 l2 k1 k2 x1 x2)) (by kernel_rfl) (H5.out.below (by repeat (first | exact Below.refl _ _ | (with_reducible apply below_drewN) | (with_reducible apply Below.drew)))) (fun hHeld => ?_)
      change wpAnyH _ _ _ _ _ 15 _ _ _
      refine wpAnyH_take (i := 0) (oi := ?y8O0) (v := ?y8V0) ?y8I0 (by kernel_rfl) (by kernel_rfl) (by kernel_rfl) ?y8Q0 (Or.inl ⟨?y8W0, ?y8Y0⟩) hHeld ?y8R0
      case y8I0 => (simp only [List.getElem?_toArray, List.getElem?_cons_succ, List.getElem?_cons_zero]; exact rfl)
      case y8Q0 => exact fun _ _ _ h => h
      case y8W0 => kernel_rfl
      case y8Y0 => (intro W hSw; clear hSw; go_simp; try with_reducible rfl)
      try simp only [Act.put, List.setIfInBounds_toArray, List.set_cons_zero, List.set_cons_succ]
      refine wpAnyH_take (i := 1) (oi := ?y8O1) (v := ?y8V1) ?y8I1 (by kernel_rfl) (by kernel_rfl) (by kernel_rfl) ?y8Q1 (Or.inl ⟨?y8W1, ?y8Y1⟩) hHeld ?y8R1
      case y8I1 => (simp only [List.getElem?_toArray, List.getElem?_cons_succ, List.getElem?_cons_zero]; exact rfl)
      case y8Q1 => exact fun _ _ _ h => h
      case y8W1 => kernel_rfl
      case y8Y1 => (intro W hSw; obtain ⟨c0, c1, c2⟩ := hSw.x.cells; go_simp; try with_reducible rfl)
      try simp only [Act.put, List.setIfInBounds_toArray, List.set_cons_zero, List.set_cons_succ]
      refine wpAnyH_take (i := 2) (oi := ?y8O2) (v := ?y8V2) ?y8I2 (by kernel_rfl) (by kernel_rfl) (by kernel_rfl) ?y8Q2 (Or.inl ⟨?y8W2, ?y8Y2⟩) hHeld ?y8R2
      case y8I2 => (simp only [List.getElem?_toArray, List.getElem?_cons_succ, List.getElem?_cons_zero]; exact rfl)
      case y8Q2 => exact fun _ _ _ h => h
      case y8W2 => kernel_rfl
      case y8Y2 => (intro W hSw; obtain ⟨c0, c1, c2⟩ := hSw.t.cells; go_simp; try with_reducible rfl)
      try simp only [Act.put, List.setIfInBounds_toArray, List.set_cons_zero, List.set_cons_succ]
      refine wpAnyH_ready (rs := [3]) (by kernel_rfl) (by simp) ?_
      refine AllReadyH.cons (o := ?y8O3) ?y8I3 (fun K hK => ?y8R3) AllReadyH.nil
      case y8I3 => (simp only [List.getElem?_toArray, List.getElem?_cons_succ, List.getElem?_cons_zero]; exact rfl)
      rw [if_pos (by kernel_rfl)]
      go_simp
      refine (HC1.out _ (by repeat (first | exact Below.refl _ _ | (with_reducible apply below_drewN) | (with_reducible apply Below.drew)))).mono ?_
      rintro e v1 ⟨n5, A5, l5, k5, x5, rfl, hR, hW⟩
      have hb : Below v0.heap.size v0 v1 := Below.trans (by repeat (first | exact Below.refl _ _ | (with_reducible apply below_drewN) | (with_reducible apply Below.drew))) hW
      have E1 := Lib.hid (H5.out.below hb)
      have R1 := Lib.hid hR
      clear hR hW hb HC1
      have HC2 := Lib.hid (fun (W : World) (hW : Below v1.heap.size v1 W) => cmp_c 2148 w.heap.size 5000 X ((-numV 9218868437227405311) * ((2 ^ 1074 : Nat) : Int)) n1 n5 A1 A5 l1 l5 k1 k5 x1 x5 W (Nat.le_trans E1.out.bel.size hW.size) (E1.out.x.2.below hW) ((R1.out.below hW).raise 1074) HXB.out (raise_bd (by rw [Int.natAbs_neg]; exact numV_bd (u := 9218868437227405311) (by decide))) (by decide) (by decide))
      rw [HX1.out] at HC2
      go_wp2_with fail
      clear hHeld
      refine hK.out _ _ E1.out (fun hHeld => ?_)
      clear hK K
      try simp only [Act.put, List.setIfInBounds_toArray, List.set_cons_zero, List.set_cons_succ]
      refine wpAnyH_ready (rs := [4]) (by kernel_rfl) (by simp) ?_
      refine AllReadyH.cons (o := ?y8O4) ?y8I4 (fun K hK => ?y8R4) AllReadyH.nil
      case y8I4 => (simp only [List.getElem?_toArray, List.getElem?_cons_succ, List.getElem?_cons_zero]; exact rfl)
      rw [if_pos (by kernel_rfl)]
      go_simp
      refine (HC2.out _ (by repeat (first | exact Below.refl _ _ | (with_reducible apply below_drewN) | (with_reducible apply Below.drew)))).mono ?_
      rintro e v2 ⟨rfl, hW⟩
      have hb : Below v1.heap.size v1 v2 := Below.trans (by repeat (first | exact Below.refl _ _ | (with_reducible apply below_drewN) | (with_reducible apply Below.drew))) hW
      have E2 := Lib.hid (E1.out.below hb)
      clear hW hb HC2
      have HC3 := Lib.hid (fun (W : World) (hW : Below v2.heap.size v2 W) => cmp_c 2148 w.heap.size 5000 X (numV 9218868437227405311 * ((2 ^ 1074 : Nat) : Int)) n1 n2 A1 A2 l1 l2 k1 k2 x1 x2 W (Nat.le_trans E2.out.bel.size hW.size) (E2.out.x.2.below hW) ((E2.out.t.2.below hW).raise 1074) HXB.out (raise_bd (numV_bd (u := 9218868437227405311) (by decide))) (by decide) (by decide))
      rw [HX2.out] at HC3
      go_wp2_with fail
      clear hHeld
      refine hK.out _ _ E2.out (fun hHeld => ?_)
      clear hK K
      try simp only [Act.put, List.setIfInBounds_toArray, List.set_cons_zero, List.set_cons_succ]
      refine wpAnyH_take (i := 5) (oi := ?y8O5) (v := ?y8V5) ?y8I5 (by kernel_rfl) (by kernel_rfl) (by kernel_rfl) ?y8Q5 (Or.inl ⟨?y8W5, ?y8Y5⟩) hHeld ?y8R5
      case y8I5 => (simp only [List.getElem?_toArray, List.getElem?_cons_succ, List.getElem?_cons_zero]; exact rfl)
      case y8Q5 => exact fun _ _ _ h => h
      case y8W5 => kernel_rfl
      case y8Y5 => (intro W hSw; clear hSw; go_simp; try with_reducible rfl)
      try simp only [Act.put, List.setIfInBounds_toArray, List.set_cons_zero, List.set_cons_succ]
      refine wpAnyH_take (i := 6) (oi := ?y8O6) (v := ?y8V6) ?y8I6 (by kernel_rfl) (by kernel_rfl) (by kernel_rfl) ?y8Q6 (Or.inl ⟨?y8W6, ?y8Y6⟩) hHeld ?y8R6
      case y8I6 => (simp only [List.getElem?_toArray, List.getElem?_cons_succ, List.getElem?_cons_zero]; exact rfl)
      case y8Q6 => exact fun _ _ _ h => h
      case y8W6 => kernel_rfl
      case y8Y6 => (intro W hSw; clear hSw; go_simp; try with_reducible rfl)
      try simp only [Act.put, List.setIfInBounds_toArray, List.set_cons_zero, List.set_cons_succ]
      refine wpAnyH_take (i := 7) (oi := ?y8O7) (v := ?y8V7) ?y8I7 (by kernel_rfl) (by kernel_rfl) (by kernel_rfl) ?y8Q7 (Or.inl ⟨?y8W7, ?y8Y7⟩) hHeld ?y8R7
      case y8I7 => (simp only [List.getElem?_toArray, List.getElem?_cons_succ, List.getElem?_cons_zero]; exact rfl)
      case y8Q7 => exact fun _ _ _ h => h
      case y8W7 => kernel_rfl
      case y8Y7 => (intro W hSw; clear hSw; go_simp; try with_reducible rfl)
      try simp only [Act.put, List.setIfInBounds_toArray, List.set_cons_zero, List.set_cons_succ]
      refine wpAnyH_take (i := 8) (oi := ?y8O8) (v := ?y8V8) ?y8I8 (by kernel_rfl) (by kernel_rfl) (by kernel_rfl) ?y8Q8 (Or.inl ⟨?y8W8, ?y8Y8⟩) hHeld ?y8R8
      case y8I8 => (simp only [List.getElem?_toArray, List.getElem?_cons_succ, List.getElem?_cons_zero]; exact rfl)
      case y8Q8 => exact fun _ _ _ h => h
      case y8W8 => kernel_rfl
      case y8Y8 => (intro W hSw; clear hSw; go_simp; try with_reducible rfl)
      try simp only [Act.put, List.setIfInBounds_toArray, List.set_cons_zero, List.set_cons_succ]
      refine wpAnyH_take (i := 9) (oi := ?y8O9) (v := ?y8V9) ?y8I9 (by kernel_rfl) (by kernel_rfl) (by kernel_rfl) ?y8Q9 (Or.inl ⟨?y8W9, ?y8Y9⟩) hHeld ?y8R9
      case y8I9 => (simp only [List.getElem?_toArray, List.getElem?_cons_succ, List.getElem?_cons_zero]; exact rfl)
      case y8Q9 => exact fun _ _ _ h => h
      case y8W9 => kernel_rfl
      case y8Y9 => (intro W hSw; obtain ⟨c0, c1, c2⟩ := hSw.x.cells; go_simp; try with_reducible rfl)
      try simp only [Act.put, List.setIfInBounds_toArray, List.set_cons_zero, List.set_cons_succ]
      refine wpAnyH_take (i := 10) (oi := ?y8O10) (v := ?y8V10) ?y8I10 (by kernel_rfl) (by kernel_rfl) (by kernel_rfl) ?y8Q10 (Or.inl ⟨?y8W10, ?y8Y10⟩) hHeld ?y8R10
      case y8I10 => (simp only [List.getElem?_toArray, List.getElem?_cons_succ, List.getElem?_cons_zero]; exact rfl)
      case y8Q10 => exact fun _ _ _ h => h
      case y8W10 => kernel_rfl
      case y8Y10 => (intro W hSw; obtain ⟨c0, c1, c2⟩ := hSw.t.cells; go_simp; try with_reducible rfl)
      try simp only [Act.put, List.setIfInBounds_toArray, List.set_cons_zero, List.set_cons_succ]
      refine wpAnyH_ready (rs := [11]) (by kernel_rfl) (by simp) ?_
      refine AllReadyH.cons (o := ?y8O11) ?y8I11 (fun K hK => ?y8R11) AllReadyH.nil
      case y8I11 => (simp only [List.getElem?_toArray, List.getElem?_cons_succ, List.getElem?_cons_zero]; exact rfl)
      rw [if_pos (by kernel_rfl)]
      go_simp
      refine (HC3.out _ (by repeat (first | exact Below.refl _ _ | (with_reducible apply below_drewN) | (with_reducible apply Below.drew)))).mono ?_
      rintro e v3 ⟨rfl, hW⟩
      have hb : Below v2.heap.size v2 v3 := Below.trans (by repeat (first | exact Below.refl _ _ | (with_reducible apply below_drewN) | (with_reducible apply Below.drew))) hW
      have E3 := Lib.hid (E2.out.below hb)
      clear hW hb HC3
      go_wp2_with fail
      clear hHeld
      refine hK.out _ _ E3.out (fun hHeld => ?_)
      clear hK K
      try simp only [Act.put, List.setIfInBounds_toArray, List.set_cons_zero, List.set_cons_succ]
      refine wpAnyH_take (i := 12) (oi := ?y8O12) (v := ?y8V12) ?y8I12 (by kernel_rfl) (by kernel_rfl) (by kernel_rfl) ?y8Q12 (Or.inl ⟨?y8W12, ?y8Y12⟩) hHeld ?y8R12
      case y8I12 => (simp only [List.getElem?_toArray, List.getElem?_cons_succ, List.getElem?_cons_zero]; exact rfl)
      case y8Q12 => exact fun _ _ _ h => h
      case y8W12 => kernel_rfl
      case y8Y12 => (intro W hSw; clear hSw; go_simp; try with_reducible rfl)
      try simp only [Act.put, List.setIfInBounds_toArray, List.set_cons_zero, List.set_cons_succ]
      refine wpAnyH_take (i := 13) (oi := ?y8O13) (v := ?y8V13) ?y8I13 (by kernel_rfl) (by kernel_rfl) (by kernel_rfl) ?y8Q13 (Or.inl ⟨?y8W13, ?y8Y13⟩) hHeld ?y8R13
      case y8I13 => (simp only [List.getElem?_toArray, List.getElem?_cons_succ, List.getElem?_cons_zero]; exact rfl)
      case y8Q13 => exact fun _ _ _ h => h
      case y8W13 => kernel_rfl
      case y8Y13 => (intro W hSw; clear hSw; go_simp; try with_reducible rfl)
      try simp only [Act.put, List.setIfInBounds_toArray, List.set_cons_zero, List.set_cons_succ]
      refine wpAnyH_take (i := 14) (oi := ?y8O14) (v := ?y8V14) ?y8I14 (by kernel_rfl) (by kernel_rfl) (by kernel_rfl) ?y8Q14 (Or.inl ⟨?y8W14, ?y8Y14⟩) hHeld ?y8R14
      case y8I14 => (simp only [List.getElem?_toArray, List.getElem?_cons_succ, List.getElem?_cons_zero]; exact rfl)
      case y8Q14 => exact fun _ _ _ h => h
      case y8W14 => kernel_rfl
      case y8Y14 => (intro W hSw; clear hSw; go_simp; try with_reducible rfl)
      try simp only [Act.put, List.setIfInBounds_toArray, List.set_cons_zero, List.set_cons_succ]
      refine wpAnyH_done (by kernel_rfl) ?_ _
      refine NoPanic.normal ?_
      go_wp2_with fail
      go_meet
      exact ⟨rfl, E3⟩
    · refine wp_region_noPanic ?_
      refine wp_region_held_drew (S := (fun wx => Two w wx w.heap.size w1.heap.size w5.heap.size X (numV 9218868437227405311) n1 n2 A1 A2 l1 l2 k1 k2 x1 x2)) (by kernel_rfl) (H5.out.below (by repeat (first | exact Below.refl _ _ | (with_reducible apply below_drewN) | (with_reducible apply Below.drew)))) (fun hHeld => ?_)
      change wpAnyH _ _ _ _ _ 15 _ _ _
      refine wpAnyH_take (i := 0) (oi := ?y9O0) (v := ?y9V0) ?y9I0 (by kernel_rfl) (by kernel_rfl) (by kernel_rfl) ?y9Q0 (Or.inl ⟨?y9W0, ?y9Y0⟩) hHeld ?y9R0
      case y9I0 => (simp only [List.getElem?_toArray, List.getElem?_cons_succ, List.getElem?_cons_zero]; exact rfl)
      case y9Q0 => exact fun _ _ _ h => h
      case y9W0 => kernel_rfl
      case y9Y0 => (intro W hSw; clear hSw; go_simp; try with_reducible rfl)
      try simp only [Act.put, List.setIfInBounds_toArray, List.set_cons_zero, List.set_cons_succ]
      refine wpAnyH_take (i := 1) (oi := ?y9O1) (v := ?y9V1) ?y9I1 (by kernel_rfl) (by kernel_rfl) (by kernel_rfl) ?y9Q1 (Or.inl ⟨?y9W1, ?y9Y1⟩) hHeld ?y9R1
      case y9I1 => (simp only [List.getElem?_toArray, List.getElem?_cons_succ, List.getElem?_cons_zero]; exact rfl)
      case y9Q1 => exact fun _ _ _ h => h
      case y9W1 => kernel_rfl
      case y9Y1 => (intro W hSw; obtain ⟨c0, c1, c2⟩ := hSw.x.cells; go_simp; try with_reducible rfl)
      try simp only [Act.put, List.setIfInBounds_toArray, List.set_cons_zero, List.set_cons_succ]
      refine wpAnyH_take (i := 2) (oi := ?y9O2) (v := ?y9V2) ?y9I2 (by kernel_rfl) (by kernel_rfl) (by kernel_rfl) ?y9Q2 (Or.inl ⟨?y9W2, ?y9Y2⟩) hHeld ?y9R2
      case y9I2 => (simp only [List.getElem?_toArray, List.getElem?_cons_succ, List.getElem?_cons_zero]; exact rfl)
      case y9Q2 => exact fun _ _ _ h => h
      case y9W2 => kernel_rfl
      case y9Y2 => (intro W hSw; obtain ⟨c0, c1, c2⟩ := hSw.t.cells; go_simp; try with_reducible rfl)
      try simp only [Act.put, List.setIfInBounds_toArray, List.set_cons_zero, List.set_cons_succ]
      refine wpAnyH_ready (rs := [3]) (by kernel_rfl) (by simp) ?_
      refine AllReadyH.cons (o := ?y9O3) ?y9I3 (fun K hK => ?y9R3) AllReadyH.nil
      case y9I3 => (simp only [List.getElem?_toArray, List.getElem?_cons_succ, List.getElem?_cons_zero]; exact rfl)
      rw [if_pos (by kernel_rfl)]
      go_simp
      refine (HC1.out _ (by repeat (first | exact Below.refl _ _ | (with_reducible apply below_drewN) | (with_reducible apply Below.drew)))).mono ?_
      rintro e v1 ⟨n5, A5, l5, k5, x5, rfl, hR, hW⟩
      have hb : Below v0.heap.size v0 v1 := Below.trans (by repeat (first | exact Below.refl _ _ | (with_reducible apply below_drewN) | (with_reducible apply Below.drew))) hW
      have E1 := Lib.hid (H5.out.below hb)
      have R1 := Lib.hid hR
      clear hR hW hb HC1
      have HC2 := Lib.hid (fun (W : World) (hW : Below v1.heap.size v1 W) => cmp_c 2148 w.heap.size 5000 X ((-numV 9218868437227405311) * ((2 ^ 1074 : Nat) : Int)) n1 n5 A1 A5 l1 l5 k1 k5 x1 x5 W (Nat.le_trans E1.out.bel.size hW.size) (E1.out.x.2.below hW) ((R1.out.below hW).raise 1074) HXB.out (raise_bd (by rw [Int.natAbs_neg]; exact numV_bd (u := 9218868437227405311) (by decide))) (by decide) (by decide))
      rw [HX1.out] at HC2
      go_wp2_with fail
      clear hHeld
      refine hK.out _ _ E1.out (fun hHeld => ?_)
      clear hK K
      try simp only [Act.put, List.setIfInBounds_toArray, List.set_cons_zero, List.set_cons_succ]
      refine wpAnyH_ready (rs := [4]) (by kernel_rfl) (by simp) ?_
      refine AllReadyH.cons (o := ?y9O4) ?y9I4 (fun K hK => ?y9R4) AllReadyH.nil
      case y9I4 => (simp only [List.getElem?_toArray, List.getElem?_cons_succ, List.getElem?_cons_zero]; exact rfl)
      rw [if_pos (by kernel_rfl)]
      go_simp
      refine (HC2.out _ (by repeat (first | exact Below.refl _ _ | (with_reducible apply below_drewN) | (with_reducible apply Below.drew)))).mono ?_
      rintro e v2 ⟨rfl, hW⟩
      have hb : Below v1.heap.size v1 v2 := Below.trans (by repeat (first | exact Below.refl _ _ | (with_reducible apply below_drewN) | (with_reducible apply Below.drew))) hW
      have E2 := Lib.hid (E1.out.below hb)
      clear hW hb HC2
      have HC3 := Lib.hid (fun (W : World) (hW : Below v2.heap.size v2 W) => cmp_c 2148 w.heap.size 5000 X (numV 9218868437227405311 * ((2 ^ 1074 : Nat) : Int)) n1 n2 A1 A2 l1 l2 k1 k2 x1 x2 W (Nat.le_trans E2.out.bel.size hW.size) (E2.out.x.2.below hW) ((E2.out.t.2.below hW).raise 1074) HXB.out (raise_bd (numV_bd (u := 9218868437227405311) (by decide))) (by decide) (by decide))
      rw [HX2.out] at HC3
      go_wp2_with fail
      clear hHeld
      refine hK.out _ _ E2.out (fun hHeld => ?_)
      clear hK K
      try simp only [Act.put, List.setIfInBounds_toArray, List.set_cons_zero, List.set_cons_succ]
      refine wpAnyH_take (i := 5) (oi := ?y9O5) (v := ?y9V5) ?y9I5 (by kernel_rfl) (by kernel_rfl) (by kernel_rfl) ?y9Q5 (Or.inl ⟨?y9W5, ?y9Y5⟩) hHeld ?y9R5
      case y9I5 => (simp only [List.getElem?_toArray, List.getElem?_cons_succ, List.getElem?_cons_zero]; exact rfl)
      case y9Q5 => exact fun _ _ _ h => h
      case y9W5 => kernel_rfl
      case y9Y5 => (intro W hSw; clear hSw; go_simp; try with_reducible rfl)
      try simp only [Act.put, List.setIfInBounds_toArray, List.set_cons_zero, List.set_cons_succ]
      refine wpAnyH_take (i := 6) (oi := ?y9O6) (v := ?y9V6) ?y9I6 (by kernel_rfl) (by kernel_rfl) (by kernel_rfl) ?y9Q6 (Or.inl ⟨?y9W6, ?y9Y6⟩) hHeld ?y9R6
      case y9I6 => (simp only [List.getElem?_toArray, List.getElem?_cons_succ, List.getElem?_cons_zero]; exact rfl)
      case y9Q6 => exact fun _ _ _ h => h
      case y9W6 => kernel_rfl
      case y9Y6 => (intro W hSw; clear hSw; go_simp; try with_reducible rfl)
      try simp only [Act.put, List.setIfInBounds_toArray, List.set_cons_zero, List.set_cons_succ]
      refine wpAnyH_take (i := 7) (oi := ?y9O7) (v := ?y9V7) ?y9I7 (by kernel_rfl) (by kernel_rfl) (by kernel_rfl) ?y9Q7 (Or.inl ⟨?y9W7, ?y9Y7⟩) hHeld ?y9R7
      case y9I7 => (simp only [List.getElem?_toArray, List.getElem?_cons_succ, List.getElem?_cons_zero]; exact rfl)
      case y9Q7 => exact fun _ _ _ h => h
      case y9W7 => kernel_rfl
      case y9Y7 => (intro W hSw; clear hSw; go_simp; try with_reducible rfl)
      try simp only [Act.put, List.setIfInBounds_toArray, List.set_cons_zero, List.set_cons_succ]
      refine wpAnyH_take (i := 8) (oi := ?y9O8) (v := ?y9V8) ?y9I8 (by kernel_rfl) (by kernel_rfl) (by kernel_rfl) ?y9Q8 (Or.inl ⟨?y9W8, ?y9Y8⟩) hHeld ?y9R8
      case y9I8 => (simp only [List.getElem?_toArray, List.getElem?_cons_succ, List.getElem?_cons_zero]; exact rfl)
      case y9Q8 => exact fun _ _ _ h => h
      case y9W8 => kernel_rfl
      case y9Y8 => (intro W hSw; clear hSw; go_simp; try with_reducible rfl)
      try simp only [Act.put, List.setIfInBounds_toArray, List.set_cons_zero, List.set_cons_succ]
      refine wpAnyH_take (i := 9) (oi := ?y9O9) (v := ?y9V9) ?y9I9 (by kernel_rfl) (by kernel_rfl) (by kernel_rfl) ?y9Q9 (Or.inl ⟨?y9W9, ?y9Y9⟩) hHeld ?y9R9
      case y9I9 => (simp only [List.getElem?_toArray, List.getElem?_cons_succ, List.getElem?_cons_zero]; exact rfl)
      case y9Q9 => exact fun _ _ _ h => h
      case y9W9 => kernel_rfl
      case y9Y9 => (intro W hSw; obtain ⟨c0, c1, c2⟩ := hSw.x.cells; go_simp; try with_reducible rfl)
      try simp only [Act.put, List.setIfInBounds_toArray, List.set_cons_zero, List.set_cons_succ]
      refine wpAnyH_take (i := 10) (oi := ?y9O10) (v := ?y9V10) ?y9I10 (by kernel_rfl) (by kernel_rfl) (by kernel_rfl) ?y9Q10 (Or.inl ⟨?y9W10, ?y9Y10⟩) hHeld ?y9R10
      case y9I10 => (simp only [List.getElem?_toArray, List.getElem?_cons_succ, List.getElem?_cons_zero]; exact rfl)
      case y9Q10 => exact fun _ _ _ h => h
      case y9W10 => kernel_rfl
      case y9Y10 => (intro W hSw; obtain ⟨c0, c1, c2⟩ := hSw.t.cells; go_simp; try with_reducible rfl)
      try simp only [Act.put, List.setIfInBounds_toArray, List.set_cons_zero, List.set_cons_succ]
      refine wpAnyH_ready (rs := [11]) (by kernel_rfl) (by simp) ?_
      refine AllReadyH.cons (o := ?y9O11) ?y9I11 (fun K hK => ?y9R11) AllReadyH.nil
      case y9I11 => (simp only [List.getElem?_toArray, List.getElem?_cons_succ, List.getElem?_cons_zero]; exact rfl)
      rw [if_pos (by kernel_rfl)]
      go_simp
      refine (HC3.out _ (by repeat (first | exact Below.refl _ _ | (with_reducible apply below_drewN) | (with_reducible apply Below.drew)))).mono ?_
      rintro e v3 ⟨rfl, hW⟩
      have hb : Below v2.heap.size v2 v3 := Below.trans (by repeat (first | exact Below.refl _ _ | (with_reducible apply below_drewN) | (with_reducible apply Below.drew))) hW
      have E3 := Lib.hid (E2.out.below hb)
      clear hW hb HC3
      go_wp2_with fail
      clear hHeld
      refine hK.out _ _ E3.out (fun hHeld => ?_)
      clear hK K
      try simp only [Act.put, List.setIfInBounds_toArray, List.set_cons_zero, List.set_cons_succ]
      refine wpAnyH_take (i := 12) (oi := ?y9O12) (v := ?y9V12) ?y9I12 (by kernel_rfl) (by kernel_rfl) (by kernel_rfl) ?y9Q12 (Or.inl ⟨?y9W12, ?y9Y12⟩) hHeld ?y9R12
      case y9I12 => (simp only [List.getElem?_toArray, List.getElem?_cons_succ, List.getElem?_cons_zero]; exact rfl)
      case y9Q12 => exact fun _ _ _ h => h
      case y9W12 => kernel_rfl
      case y9Y12 => (intro W hSw; clear hSw; go_simp; try with_reducible rfl)
      try simp only [Act.put, List.setIfInBounds_toArray, List.set_cons_zero, List.set_cons_succ]
      refine wpAnyH_take (i := 13) (oi := ?y9O13) (v := ?y9V13) ?y9I13 (by kernel_rfl) (by kernel_rfl) (by kernel_rfl) ?y9Q13 (Or.inl ⟨?y9W13, ?y9Y13⟩) hHeld ?y9R13
      case y9I13 => (simp only [List.getElem?_toArray, List.getElem?_cons_succ, List.getElem?_cons_zero]; exact rfl)
      case y9Q13 => exact fun _ _ _ h => h
      case y9W13 => kernel_rfl
      case y9Y13 => (intro W hSw; clear hSw; go_simp; try with_reducible rfl)
      try simp only [Act.put, List.setIfInBounds_toArray, List.set_cons_zero, List.set_cons_succ]
      refine wpAnyH_take (i := 14) (oi := ?y9O14) (v := ?y9V14) ?y9I14 (by kernel_rfl) (by kernel_rfl) (by kernel_rfl) ?y9Q14 (Or.inl ⟨?y9W14, ?y9Y14⟩) hHeld ?y9R14
      case y9I14 => (simp only [List.getElem?_toArray, List.getElem?_cons_succ, List.getElem?_cons_zero]; exact rfl)
      case y9Q14 => exact fun _ _ _ h => h
      case y9W14 => kernel_rfl
      case y9Y14 => (intro W hSw; clear hSw; go_simp; try with_reducible rfl)
      try simp only [Act.put, List.setIfInBounds_toArray, List.set_cons_zero, List.set_cons_succ]
      refine wpAnyH_done (by kernel_rfl) ?_ _
      refine NoPanic.normal ?_
      go_wp2_with fail
      go_meet
      exact ⟨rfl, E3⟩
    · refine wp_region_noPanic ?_
      refine wp_region_held_drew (S := (fun wx => Two w wx w.heap.size w1.heap.size w5.heap.size X (numV 9218868437227405311) n1 n2 A1 A2 l1 l2 k1 k2 x1 x2)) (by kernel_rfl) (H5.out.below (by repeat (first | exact Below.refl _ _ | (with_reducible apply below_drewN) | (with_reducible apply Below.drew)))) (fun hHeld => ?_)
      change wpAnyH _ _ _ _ _ 15 _ _ _
      refine wpAnyH_take (i := 0) (oi := ?y10O0) (v := ?y10V0) ?y10I0 (by kernel_rfl) (by kernel_rfl) (by kernel_rfl) ?y10Q0 (Or.inl ⟨?y10W0, ?y10Y0⟩) hHeld ?y10R0
      case y10I0 => (simp only [List.getElem?_toArray, List.getElem?_cons_succ, List.getElem?_cons_zero]; exact rfl)
      case y10Q0 => exact fun _ _ _ h => h
      case y10W0 => kernel_rfl
      case y10Y0 => (intro W hSw; clear hSw; go_simp; try with_reducible rfl)
      try simp only [Act.put, List.setIfInBounds_toArray, List.set_cons_zero, List.set_cons_succ]
      refine wpAnyH_take (i := 1) (oi := ?y10O1) (v := ?y10V1) ?y10I1 (by kernel_rfl) (by kernel_rfl) (by kernel_rfl) ?y10Q1 (Or.inl ⟨?y10W1, ?y10Y1⟩) hHeld ?y10R1
      case y10I1 => (simp only [List.getElem?_toArray, List.getElem?_cons_succ, List.getElem?_cons_zero]; exact rfl)
      case y10Q1 => exact fun _ _ _ h => h
      case y10W1 => kernel_rfl
      case y10Y1 => (intro W hSw; obtain ⟨c0, c1, c2⟩ := hSw.x.cells; go_simp; try with_reducible rfl)
      try simp only [Act.put, List.setIfInBounds_toArray, List.set_cons_zero, List.set_cons_succ]
      refine wpAnyH_take (i := 2) (oi := ?y10O2) (v := ?y10V2) ?y10I2 (by kernel_rfl) (by kernel_rfl) (by kernel_rfl) ?y10Q2 (Or.inl ⟨?y10W2, ?y10Y2⟩) hHeld ?y10R2
      case y10I2 => (simp only [List.getElem?_toArray, List.getElem?_cons_succ, List.getElem?_cons_zero]; exact rfl)
      case y10Q2 => exact fun _ _ _ h => h
      case y10W2 => kernel_rfl
      case y10Y2 => (intro W hSw; obtain ⟨c0, c1, c2⟩ := hSw.t.cells; go_simp; try with_reducible rfl)
      try simp only [Act.put, List.setIfInBounds_toArray, List.set_cons_zero, List.set_cons_succ]
      refine wpAnyH_ready (rs := [3]) (by kernel_rfl) (by simp) ?_
      refine AllReadyH.cons (o := ?y10O3) ?y10I3 (fun K hK => ?y10R3) AllReadyH.nil
      case y10I3 => (simp only [List.getElem?_toArray, List.getElem?_cons_succ, List.getElem?_cons_zero]; exact rfl)
      rw [if_pos (by kernel_rfl)]
      go_simp
      refine (HC1.out _ (by repeat (first | exact Below.refl _ _ | (with_reducible apply below_drewN) | (with_reducible apply Below.drew)))).mono ?_
      rintro e v1 ⟨n5, A5, l5, k5, x5, rfl, hR, hW⟩
      have hb : Below v0.heap.size v0 v1 := Below.trans (by repeat (first | exact Below.refl _ _ | (with_reducible apply below_drewN) | (with_reducible apply Below.drew))) hW
      have E1 := Lib.hid (H5.out.below hb)
      have R1 := Lib.hid hR
      clear hR hW hb HC1
      have HC2 := Lib.hid (fun (W : World) (hW : Below v1.heap.size v1 W) => cmp_c 2148 w.heap.size 5000 X ((-numV 9218868437227405311) * ((2 ^ 1074 : Nat) : Int)) n1 n5 A1 A5 l1 l5 k1 k5 x1 x5 W (Nat.le_trans E1.out.bel.size hW.size) (E1.out.x.2.below hW) ((R1.out.below hW).raise 1074) HXB.out (raise_bd (by rw [Int.natAbs_neg]; exact numV_bd (u := 9218868437227405311) (by decide))) (by decide) (by decide))
      rw [HX1.out] at HC2
      go_wp2_with fail
      clear hHeld
      refine hK.out _ _ E1.out (fun hHeld => ?_)
      clear hK K
      try simp only [Act.put, List.setIfInBounds_toArray, List.set_cons_zero, List.set_cons_succ]
      refine wpAnyH_ready (rs := [4]) (by kernel_rfl) (by simp) ?_
      refine AllReadyH.cons (o := ?y10O4) ?y10I4 (fun K hK => ?y10R4) AllReadyH.nil
      case y10I4 => (simp only [List.getElem?_toArray, List.getElem?_cons_succ, List.getElem?_cons_zero]; exact rfl)
      rw [if_pos (by kernel_rfl)]
      go_simp
      refine (HC2.out _ (by repeat (first | exact Below.refl _ _ | (with_reducible apply below_drewN) | (with_reducible apply Below.drew)))).mono ?_
      rintro e v2 ⟨rfl, hW⟩
      have hb : Below v1.heap.size v1 v2 := Below.trans (by repeat (first | exact Below.refl _ _ | (with_reducible apply below_drewN) | (with_reducible apply Below.drew))) hW
      have E2 := Lib.hid (E1.out.below hb)
      clear hW hb HC2
      have HC3 := Lib.hid (fun (W : World) (hW : Below v2.heap.size v2 W) => cmp_c 2148 w.heap.size 5000 X (numV 9218868437227405311 * ((2 ^ 1074 : Nat) : Int)) n1 n2 A1 A2 l1 l2 k1 k2 x1 x2 W (Nat.le_trans E2.out.bel.size hW.size) (E2.out.x.2.below hW) ((E2.out.t.2.below hW).raise 1074) HXB.out (raise_bd (numV_bd (u := 9218868437227405311) (by decide))) (by decide) (by decide))
      rw [HX2.out] at HC3
      go_wp2_with fail
      clear hHeld
      refine hK.out _ _ E2.out (fun hHeld => ?_)
      clear hK K
      try simp only [Act.put, List.setIfInBounds_toArray, List.set_cons_zero, List.set_cons_succ]
      refine wpAnyH_take (i := 5) (oi := ?y10O5) (v := ?y10V5) ?y10I5 (by kernel_rfl) (by kernel_rfl) (by kernel_rfl) ?y10Q5 (Or.inl ⟨?y10W5, ?y10Y5⟩) hHeld ?y10R5
      case y10I5 => (simp only [List.getElem?_toArray, List.getElem?_cons_succ, List.getElem?_cons_zero]; exact rfl)
      case y10Q5 => exact fun _ _ _ h => h
      case y10W5 => kernel_rfl
      case y10Y5 => (intro W hSw; clear hSw; go_simp; try with_reducible rfl)
      try simp only [Act.put, List.setIfInBounds_toArray, List.set_cons_zero, List.set_cons_succ]
      refine wpAnyH_take (i := 6) (oi := ?y10O6) (v := ?y10V6) ?y10I6 (by kernel_rfl) (by kernel_rfl) (by kernel_rfl) ?y10Q6 (Or.inl ⟨?y10W6, ?y10Y6⟩) hHeld ?y10R6
      case y10I6 => (simp only [List.getElem?_toArray, List.getElem?_cons_succ, List.getElem?_cons_zero]; exact rfl)
      case y10Q6 => exact fun _ _ _ h => h
      case y10W6 => kernel_rfl
      case y10Y6 => (intro W hSw; clear hSw; go_simp; try with_reducible rfl)
      try simp only [Act.put, List.setIfInBounds_toArray, List.set_cons_zero, List.set_cons_succ]
      refine wpAnyH_take (i := 7) (oi := ?y10O7) (v := ?y10V7) ?y10I7 (by kernel_rfl) (by kernel_rfl) (by kernel_rfl) ?y10Q7 (Or.inl ⟨?y10W7, ?y10Y7⟩) hHeld ?y10R7
      case y10I7 => (simp only [List.getElem?_toArray, List.getElem?_cons_succ, List.getElem?_cons_zero]; exact rfl)
      case y10Q7 => exact fun _ _ _ h => h
      case y10W7 => kernel_rfl
      case y10Y7 => (intro W hSw; clear hSw; go_simp; try with_reducible rfl)
      try simp only [Act.put, List.setIfInBounds_toArray, List.set_cons_zero, List.set_cons_succ]
      refine wpAnyH_take (i := 8) (oi := ?y10O8) (v := ?y10V8) ?y10I8 (by kernel_rfl) (by kernel_rfl) (by kernel_rfl) ?y10Q8 (Or.inl ⟨?y10W8, ?y10Y8⟩) hHeld ?y10R8
      case y10I8 => (simp only [List.getElem?_toArray, List.getElem?_cons_succ, List.getElem?_cons_zero]; exact rfl)
      case y10Q8 => exact fun _ _ _ h => h
      case y10W8 => kernel_rfl
      case y10Y8 => (intro W hSw; clear hSw; go_simp; try with_reducible rfl)
      try simp only [Act.put, List.setIfInBounds_toArray, List.set_cons_zero, List.set_cons_succ]
      refine wpAnyH_take (i := 9) (oi := ?y10O9) (v := ?y10V9) ?y10I9 (by kernel_rfl) (by kernel_rfl) (by kernel_rfl) ?y10Q9 (Or.inl ⟨?y10W9, ?y10Y9⟩) hHeld ?y10R9
      case y10I9 => (simp only [List.getElem?_toArray, List.getElem?_cons_succ, List.getElem?_cons_zero]; exact rfl)
      case y10Q9 => exact fun _ _ _ h => h
      case y10W9 => kernel_rfl
      case y10Y9 => (intro W hSw; obtain ⟨c0, c1, c2⟩ := hSw.x.cells; go_simp; try with_reducible rfl)
      try simp only [Act.put, List.setIfInBounds_toArray, List.set_cons_zero, List.set_cons_succ]
      refine wpAnyH_take (i := 10) (oi := ?y10O10) (v := ?y10V10) ?y10I10 (by kernel_rfl) (by kernel_rfl) (by kernel_rfl) ?y10Q10 (Or.inl ⟨?y10W10, ?y10Y10⟩) hHeld ?y10R10
      case y10I10 => (simp only [List.getElem?_toArray, List.getElem?_cons_succ, List.getElem?_cons_zero]; exact rfl)
      case y10Q10 => exact fun _ _ _ h => h
      case y10W10 => kernel_rfl
      case y10Y10 => (intro W hSw; obtain ⟨c0, c1, c2⟩ := hSw.t.cells; go_simp; try with_reducible rfl)
      try simp only [Act.put, List.setIfInBounds_toArray, List.set_cons_zero, List.set_cons_succ]
      refine wpAnyH_ready (rs := [11]) (by kernel_rfl) (by simp) ?_
      refine AllReadyH.cons (o := ?y10O11) ?y10I11 (fun K hK => ?y10R11) AllReadyH.nil
      case y10I11 => (simp only [List.getElem?_toArray, List.getElem?_cons_succ, List.getElem?_cons_zero]; exact rfl)
      rw [if_pos (by kernel_rfl)]
      go_simp
      refine (HC3.out _ (by repeat (first | exact Below.refl _ _ | (with_reducible apply below_drewN) | (with_reducible apply Below.drew)))).mono ?_
      rintro e v3 ⟨rfl, hW⟩
      have hb : Below v2.heap.size v2 v3 := Below.trans (by repeat (first | exact Below.refl _ _ | (with_reducible apply below_drewN) | (with_reducible apply Below.drew))) hW
      have E3 := Lib.hid (E2.out.below hb)
      clear hW hb HC3
      go_wp2_with fail
      clear hHeld
      refine hK.out _ _ E3.out (fun hHeld => ?_)
      clear hK K
      try simp only [Act.put, List.setIfInBounds_toArray, List.set_cons_zero, List.set_cons_succ]
      refine wpAnyH_take (i := 12) (oi := ?y10O12) (v := ?y10V12) ?y10I12 (by kernel_rfl) (by kernel_rfl) (by kernel_rfl) ?y10Q12 (Or.inl ⟨?y10W12, ?y10Y12⟩) hHeld ?y10R12
      case y10I12 => (simp only [List.getElem?_toArray, List.getElem?_cons_succ, List.getElem?_cons_zero]; exact rfl)
      case y10Q12 => exact fun _ _ _ h => h
      case y10W12 => kernel_rfl
      case y10Y12 => (intro W hSw; clear hSw; go_simp; try with_reducible rfl)
      try simp only [Act.put, List.setIfInBounds_toArray, List.set_cons_zero, List.set_cons_succ]
      refine wpAnyH_take (i := 13) (oi := ?y10O13) (v := ?y10V13) ?y10I13 (by kernel_rfl) (by kernel_rfl) (by kernel_rfl) ?y10Q13 (Or.inl ⟨?y10W13, ?y10Y13⟩) hHeld ?y10R13
      case y10I13 => (simp only [List.getElem?_toArray, List.getElem?_cons_succ, List.getElem?_cons_zero]; exact rfl)
      case y10Q13 => exact fun _ _ _ h => h
      case y10W13 => kernel_rfl
      case y10Y13 => (intro W hSw; clear hSw; go_simp; try with_reducible rfl)
      try simp only [Act.put, List.setIfInBounds_toArray, List.set_cons_zero, List.set_cons_succ]
      refine wpAnyH_take (i := 14) (oi := ?y10O14) (v := ?y10V14) ?y10I14 (by kernel_rfl) (by kernel_rfl) (by kernel_rfl) ?y10Q14 (Or.inl ⟨?y10W14, ?y10Y14⟩) hHeld ?y10R14
      case y10I14 => (simp only [List.getElem?_toArray, List.getElem?_cons_succ, List.getElem?_cons_zero]; exact rfl)
      case y10Q14 => exact fun _ _ _ h => h
      case y10W14 => kernel_rfl
      case y10Y14 => (intro W hSw; clear hSw; go_simp; try with_reducible rfl)
      try simp only [Act.put, List.setIfInBounds_toArray, List.set_cons_zero, List.set_cons_succ]
      refine wpAnyH_done (by kernel_rfl) ?_ _
      refine NoPanic.normal ?_
      go_wp2_with fail
      go_meet
      exact ⟨rfl, E3⟩
    · refine wp_region_noPanic ?_
      refine wp_region_held_drew (S := (fun wx => Two w wx w.heap.size w1.heap.size w5.heap.size X (numV 9218868437227405311) n1 n2 A1 A2 l1 l2 k1 k2 x1 x2)) (by kernel_rfl) (H5.out.below (by repeat (first | exact Below.refl _ _ | (with_reducible apply below_drewN) | (with_reducible apply Below.drew)))) (fun hHeld => ?_)
      change wpAnyH _ _ _ _ _ 15 _ _ _
      refine wpAnyH_take (i := 0) (oi := ?y11O0) (v := ?y11V0) ?y11I0 (by kernel_rfl) (by kernel_rfl) (by kernel_rfl) ?y11Q0 (Or.inl ⟨?y11W0, ?y11Y0⟩) hHeld ?y11R0
      case y11I0 => (simp only [List.getElem?_toArray, List.getElem?_cons_succ, List.getElem?_cons_zero]; exact rfl)
      case y11Q0 => exact fun _ _ _ h => h
      case y11W0 => kernel_rfl
      case y11Y0 => (intro W hSw; clear hSw; go_simp; try with_reducible rfl)
      try simp only [Act.put, List.setIfInBounds_toArray, List.set_cons_zero, List.set_cons_succ]
      refine wpAnyH_take (i := 1) (oi := ?y11O1) (v := ?y11V1) ?y11I1 (by kernel_rfl) (by kernel_rfl) (by kernel_rfl) ?y11Q1 (Or.inl ⟨?y11W1, ?y11Y1⟩) hHeld ?y11R1
      case y11I1 => (simp only [List.getElem?_toArray, List.getElem?_cons_succ, List.getElem?_cons_zero]; exact rfl)
      case y11Q1 => exact fun _ _ _ h => h
      case y11W1 => kernel_rfl
      case y11Y1 => (intro W hSw; obtain ⟨c0, c1, c2⟩ := hSw.x.cells; go_simp; try with_reducible rfl)
      try simp only [Act.put, List.setIfInBounds_toArray, List.set_cons_zero, List.set_cons_succ]
      refine wpAnyH_take (i := 2) (oi := ?y11O2) (v := ?y11V2) ?y11I2 (by kernel_rfl) (by kernel_rfl) (by kernel_rfl) ?y11Q2 (Or.inl ⟨?y11W2, ?y11Y2⟩) hHeld ?y11R2
      case y11I2 => (simp only [List.getElem?_toArray, List.getElem?_cons_succ, List.getElem?_cons_zero]; exact rfl)
      case y11Q2 => exact fun _ _ _ h => h
      case y11W2 => kernel_rfl
      case y11Y2 => (intro W hSw; obtain ⟨c0, c1, c2⟩ := hSw.t.cells; go_simp; try with_reducible rfl)
      try simp only [Act.put, List.setIfInBounds_toArray, List.set_cons_zero, List.set_cons_succ]
      refine wpAnyH_ready (rs := [3]) (by kernel_rfl) (by simp) ?_
      refine AllReadyH.cons (o := ?y11O3) ?y11I3 (fun K hK => ?y11R3) AllReadyH.nil
      case y11I3 => (simp only [List.getElem?_toArray, List.getElem?_cons_succ, List.getElem?_cons_zero]; exact rfl)
      rw [if_pos (by kernel_rfl)]
      go_simp
      refine (HC1.out _ (by repeat (first | exact Below.refl _ _ | (with_reducible apply below_drewN) | (with_reducible apply Below.drew)))).mono ?_
      rintro e v1 ⟨n5, A5, l5, k5, x5, rfl, hR, hW⟩
      have hb : Below v0.heap.size v0 v1 := Below.trans (by repeat (first | exact Below.refl _ _ | (with_reducible apply below_drewN) | (with_reducible apply Below.drew))) hW
      have E1 := Lib.hid (H5.out.below hb)
      have R1 := Lib.hid hR
      clear hR hW hb HC1
      have HC2 := Lib.hid (fun (W : World) (hW : Below v1.heap.size v1 W) => cmp_c 2148 w.heap.size 5000 X ((-numV 9218868437227405311) * ((2 ^ 1074 : Nat) : Int)) n1 n5 A1 A5 l1 l5 k1 k5 x1 x5 W (Nat.le_trans E1.out.bel.size hW.size) (E1.out.x.2.below hW) ((R1.out.below hW).raise 1074) HXB.out (raise_bd (by rw [Int.natAbs_neg]; exact numV_bd (u := 9218868437227405311) (by decide))) (by decide) (by decide))
      rw [HX1.out] at HC2
      go_wp2_with fail
      clear hHeld
      refine hK.out _ _ E1.out (fun hHeld => ?_)
      clear hK K
      try simp only [Act.put, List.setIfInBounds_toArray, List.set_cons_zero, List.set_cons_succ]
      refine wpAnyH_ready (rs := [4]) (by kernel_rfl) (by simp) ?_
      refine AllReadyH.cons (o := ?y11O4) ?y11I4 (fun K hK => ?y11R4) AllReadyH.nil
      case y11I4 => (simp only [List.getElem?_toArray, List.getElem?_cons_succ, List.getElem?_cons_zero]; exact rfl)
      rw [if_pos (by kernel_rfl)]
      go_simp
      refine (HC2.out _ (by repeat (first | exact Below.refl _ _ | (with_reducible apply below_drewN) | (with_reducible apply Below.drew)))).mono ?_
      rintro e v2 ⟨rfl, hW⟩
      have hb : Below v1.heap.size v1 v2 := Below.trans (by repeat (first | exact Below.refl _ _ | (with_reducible apply below_drewN) | (with_reducible apply Below.drew))) hW
      have E2 := Lib.hid (E1.out.below hb)
      clear hW hb HC2
      have HC3 := Lib.hid (fun (W : World) (hW : Below v2.heap.size v2 W) => cmp_c 2148 w.heap.size 5000 X (numV 9218868437227405311 * ((2 ^ 1074 : Nat) : Int)) n1 n2 A1 A2 l1 l2 k1 k2 x1 x2 W (Nat.le_trans E2.out.bel.size hW.size) (E2.out.x.2.below hW) ((E2.out.t.2.below hW).raise 1074) HXB.out (raise_bd (numV_bd (u := 9218868437227405311) (by decide))) (by decide) (by decide))
      rw [HX2.out] at HC3
      go_wp2_with fail
      clear hHeld
      refine hK.out _ _ E2.out (fun hHeld => ?_)
      clear hK K
      try simp only [Act.put, List.setIfInBounds_toArray, List.set_cons_zero, List.set_cons_succ]
      refine wpAnyH_take (i := 5) (oi := ?y11O5) (v := ?y11V5) ?y11I5 (by kernel_rfl) (by kernel_rfl) (by kernel_rfl) ?y11Q5 (Or.inl ⟨?y11W5, ?y11Y5⟩) hHeld ?y11R5
      case y11I5 => (simp only [List.getElem?_toArray, List.getElem?_cons_succ, List.getElem?_cons_zero]; exact rfl)
      case y11Q5 => exact fun _ _ _ h => h
      case y11W5 => kernel_rfl
      case y11Y5 => (intro W hSw; clear hSw; go_simp; try with_reducible rfl)
      try simp only [Act.put, List.setIfInBounds_toArray, List.set_cons_zero, List.set_cons_succ]
      refine wpAnyH_take (i := 6) (oi := ?y11O6) (v := ?y11V6) ?y11I6 (by kernel_rfl) (by kernel_rfl) (by kernel_rfl) ?y11Q6 (Or.inl ⟨?y11W6, ?y11Y6⟩) hHeld ?y11R6
      case y11I6 => (simp only [List.getElem?_toArray, List.getElem?_cons_succ, List.getElem?_cons_zero]; exact rfl)
      case y11Q6 => exact fun _ _ _ h => h
      case y11W6 => kernel_rfl
      case y11Y6 => (intro W hSw; clear hSw; go_simp; try with_reducible rfl)
      try simp only [Act.put, List.setIfInBounds_toArray, List.set_cons_zero, List.set_cons_succ]
      refine wpAnyH_take (i := 7) (oi := ?y11O7) (v := ?y11V7) ?y11I7 (by kernel_rfl) (by kernel_rfl) (by kernel_rfl) ?y11Q7 (Or.inl ⟨?y11W7, ?y11Y7⟩) hHeld ?y11R7
      case y11I7 => (simp only [List.getElem?_toArray, List.getElem?_cons_succ, List.getElem?_cons_zero]; exact rfl)
      case y11Q7 => exact fun _ _ _ h => h
      case y11W7 => kernel_rfl
      case y11Y7 => (intro W hSw; clear hSw; go_simp; try with_reducible rfl)
      try simp only [Act.put, List.setIfInBounds_toArray, List.set_cons_zero, List.set_cons_succ]
      refine wpAnyH_take (i := 8) (oi := ?y11O8) (v := ?y11V8) ?y11I8 (by kernel_rfl) (by kernel_rfl) (by kernel_rfl) ?y11Q8 (Or.inl ⟨?y11W8, ?y11Y8⟩) hHeld ?y11R8
      case y11I8 => (simp only [List.getElem?_toArray, List.getElem?_cons_succ, List.getElem?_cons_zero]; exact rfl)
      case y11Q8 => exact fun _ _ _ h => h
      case y11W8 => kernel_rfl
      case y11Y8 => (intro W hSw; clear hSw; go_simp; try with_reducible rfl)
      try simp only [Act.put, List.setIfInBounds_toArray, List.set_cons_zero, List.set_cons_succ]
      refine wpAnyH_take (i := 9) (oi := ?y11O9) (v := ?y11V9) ?y11I9 (by kernel_rfl) (by kernel_rfl) (by kernel_rfl) ?y11Q9 (Or.inl ⟨?y11W9, ?y11Y9⟩) hHeld ?y11R9
      case y11I9 => (simp only [List.getElem?_toArray, List.getElem?_cons_succ, List.getElem?_cons_zero]; exact rfl)
      case y11Q9 => exact fun _ _ _ h => h
      case y11W9 => kernel_rfl
      case y11Y9 => (intro W hSw; obtain ⟨c0, c1, c2⟩ := hSw.x.cells; go_simp; try with_reducible rfl)
      try simp only [Act.put, List.setIfInBounds_toArray, List.set_cons_zero, List.set_cons_succ]
      refine wpAnyH_take (i := 10) (oi := ?y11O10) (v := ?y11V10) ?y11I10 (by kernel_rfl) (by kernel_rfl) (by kernel_rfl) ?y11Q10 (Or.inl ⟨?y11W10, ?y11Y10⟩) hHeld ?y11R10
      case y11I10 => (simp only [List.getElem?_toArray, List.getElem?_cons_succ, List.getElem?_cons_zero]; exact rfl)
      case y11Q10 => exact fun _ _ _ h => h
      case y11W10 => kernel_rfl
      case y11Y10 => (intro W hSw; obtain ⟨c0, c1, c2⟩ := hSw.t.cells; go_simp; try with_reducible rfl)
      try simp only [Act.put, List.setIfInBounds_toArray, List.set_cons_zero, List.set_cons_succ]
      refine wpAnyH_ready (rs := [11]) (by kernel_rfl) (by simp) ?_
      refine AllReadyH.cons (o := ?y11O11) ?y11I11 (fun K hK => ?y11R11) AllReadyH.nil
      case y11I11 => (simp only [List.getElem?_toArray, List.getElem?_cons_succ, List.getElem?_cons_zero]; exact rfl)
      rw [if_pos (by kernel_rfl)]
      go_simp
      refine (HC3.out _ (by repeat (first | exact Below.refl _ _ | (with_reducible apply below_drewN) | (with_reducible apply Below.drew)))).mono ?_
      rintro e v3 ⟨rfl, hW⟩
      have hb : Below v2.heap.size v2 v3 := Below.trans (by repeat (first | exact Below.refl _ _ | (with_reducible apply below_drewN) | (with_reducible apply Below.drew))) hW
      have E3 := Lib.hid (E2.out.below hb)
      clear hW hb HC3
      go_wp2_with fail
      clear hHeld
      refine hK.out _ _ E3.out (fun hHeld => ?_)
      clear hK K
      try simp only [Act.put, List.setIfInBounds_toArray, List.set_cons_zero, List.set_cons_succ]
      refine wpAnyH_take (i := 12) (oi := ?y11O12) (v := ?y11V12) ?y11I12 (by kernel_rfl) (by kernel_rfl) (by kernel_rfl) ?y11Q12 (Or.inl ⟨?y11W12, ?y11Y12⟩) hHeld ?y11R12
      case y11I12 => (simp only [List.getElem?_toArray, List.getElem?_cons_succ, List.getElem?_cons_zero]; exact rfl)
      case y11Q12 => exact fun _ _ _ h => h
      case y11W12 => kernel_rfl
      case y11Y12 => (intro W hSw; clear hSw; go_simp; try with_reducible rfl)
      try simp only [Act.put, List.setIfInBounds_toArray, List.set_cons_zero, List.set_cons_succ]
      refine wpAnyH_take (i := 13) (oi := ?y11O13) (v := ?y11V13) ?y11I13 (by kernel_rfl) (by kernel_rfl) (by kernel_rfl) ?y11Q13 (Or.inl ⟨?y11W13, ?y11Y13⟩) hHeld ?y11R13
      case y11I13 => (simp only [List.getElem?_toArray, List.getElem?_cons_succ, List.getElem?_cons_zero]; exact rfl)
      case y11Q13 => exact fun _ _ _ h => h
      case y11W13 => kernel_rfl
      case y11Y13 => (intro W hSw; clear hSw; go_simp; try with_reducible rfl)
      try simp only [Act.put, List.setIfInBounds_toArray, List.set_cons_zero, List.set_cons_succ]
      refine wpAnyH_take (i := 14) (oi := ?y11O14) (v := ?y11V14) ?y11I14 (by kernel_rfl) (by kernel_rfl) (by kernel_rfl) ?y11Q14 (Or.inl ⟨?y11W14, ?y11Y14⟩) hHeld ?y11R14
      case y11I14 => (simp only [List.getElem?_toArray, List.getElem?_cons_succ, List.getElem?_cons_zero]; exact rfl)
      case y11Q14 => exact fun _ _ _ h => h
      case y11W14 => kernel_rfl
      case y11Y14 => (intro W hSw; clear hSw; go_simp; try with_reducible rfl)
      try simp only [Act.put, List.setIfInBounds_toArray, List.set_cons_zero, List.set_cons_succ]
      refine wpAnyH_done (by kernel_rfl) ?_ _
      refine NoPanic.normal ?_
      go_wp2_with fail
      go_meet
      exact ⟨rfl, E3⟩
  case rest =>
    obtain ⟨rfl, hG1⟩ := hcut
    obtain ⟨u1, rfl⟩ : ∃ wo : World, wo = wc := ⟨_, rfl⟩
    have G1 := Lib.hid hG1.out
    clear hG1
    clear hl hh HCS
    go_wp2_with fail
    refine (lnum_calls zl w.heap.size _ HZB.out.1 G1.out.bel.size).mono ?_
    rintro e w6 ⟨n3, A3, l3, k3, x3, rfl, hR, hW⟩
    have hB := below_new (Below.refl w6.heap.size w6) (.cells #[.bool n3, .slice A3 l3 k3, .int .i64 x3] 25)
    have hb1 := below_next hW hB
    have H6 := Lib.hid (And.intro (G1.out.x.below hb1) (And.intro (NK.new hR) (below_next G1.out.bel hb1)))
    clear hR hW hB hb1 G1
    go_wp2_with fail
    refine (lnum_calls zh w.heap.size _ HZB.out.2 H6.out.2.2.size).mono ?_
    rintro e w7 ⟨n4, A4, l4, k4, x4, rfl, hR, hW⟩
    have hB := below_new (Below.refl w7.heap.size w7) (.cells #[.bool n4, .slice A4 l4 k4, .int .i64 x4] 25)
    have hb1 := below_next hW hB
    have H7 : Hid (Vpq w (w7.alloc (.cells #[.bool n4, .slice A4 l4 k4, .int .i64 x4] 25)) w.heap.size w1.heap.size w6.heap.size w7.heap.size X (numV zl) (numV zh) n1 n3 n4 A1 A3 A4 l1 l3 l4 k1 k3 k4 x1 x3 x4) := ⟨H6.out.1.below hb1, H6.out.2.1.below hb1, NK.new hR, below_next H6.out.2.2 hb1⟩
    clear hR hW hB hb1 H6
    obtain ⟨a0, a1, a2⟩ := H7.out.x.cells; obtain ⟨p0, p1, p2⟩ := H7.out.p.cells; obtain ⟨q0, q1, q2⟩ := H7.out.q.cells
    have HC1 := Lib.hid (fun (W : World) (hW : Below (w7.alloc (.cells #[.bool n4, .slice A4 l4 k4, .int .i64 x4] 25)).heap.size (w7.alloc (.cells #[.bool n4, .slice A4 l4 k4, .int .i64 x4] 25)) W) => cmp_c 2148 w.heap.size 5000 (numV zl * ((2 ^ 1074 : Nat) : Int)) X n3 n1 A3 A1 l3 l1 k3 k1 x3 x1 W (Nat.le_trans H7.out.bel.size hW.size) ((H7.out.p.2.below hW).raise 1074) (H7.out.x.2.below hW) (raise_bd (numV_bd HZB.out.1)) HXB.out (by decide) (by decide))
    rw [HX3.out] at HC1
    go_wp2_with fail
    refine (HC1.out _ (Below.refl _ _)).mono ?_
    rintro e w8 ⟨rfl, hW⟩
    have H8 := Lib.hid (H7.out.below hW)
    clear hW H7 HC1 a0 a1 a2 p0 p1 p2
    obtain ⟨a0, a1, a2⟩ := H8.out.x.cells; obtain ⟨p0, p1, p2⟩ := H8.out.p.cells; obtain ⟨q0, q1, q2⟩ := H8.out.q.cells
    have HC1 := Lib.hid (fun (W : World) (hW : Below w8.heap.size w8 W) => cmp_c 2148 w.heap.size 5000 X (numV zh * ((2 ^ 1074 : Nat) : Int)) n1 n4 A1 A4 l1 l4 k1 k4 x1 x4 W (Nat.le_trans H8.out.bel.size hW.size) (H8.out.x.2.below hW) ((H8.out.q.2.below hW).raise 1074) HXB.out (raise_bd (numV_bd HZB.out.2)) (by decide) (by decide))
    rw [HX5.out] at HC1
    go_wp2_with fail
    refine (HC1.out _ (Below.refl _ _)).mono ?_
    rintro e w9 ⟨rfl, hW⟩
    have H9 := Lib.hid (H8.out.below hW)
    clear hW H8 HC1 a0 a1 a2 q0 q1 q2
    have hm2 := bne_f' hm
    have he2 := bne_f' he
    have HL0 := Lib.hid h0
    clear h0
    go_upto_region 22 with fail
    go_cut [25] (fun s wx => s = .int .i64 lf ∧ Hid (Vpq w wx w.heap.size w1.heap.size w6.heap.size w7.heap.size X (numV zl) (numV zh) n1 n3 n4 A1 A3 A4 l1 l3 l4 k1 k3 k4 x1 x3 x4))
    case first =>
      have HC1 := Lib.hid (fun (W : World) (hW : Below w9.heap.size w9 W) => minus_c 2148 w.heap.size 5000 X (numV zl * ((2 ^ 1074 : Nat) : Int)) n1 n3 A1 A3 l1 l3 k1 k3 x1 x3 W (Nat.le_trans H9.out.bel.size hW.size) (H9.out.x.2.below hW) ((H9.out.p.2.below hW).raise 1074) HXB.out (raise_bd (numV_bd HZB.out.1)) (by decide) (by decide))
      refine wp_region_noPanic ?_
      refine wp_region_held_drew (S := (fun wx => Vpq w wx w.heap.size w1.heap.size w6.heap.size w7.heap.size X (numV zl) (numV zh) n1 n3 n4 A1 A3 A4 l1 l3 l4 k1 k3 k4 x1 x3 x4)) (by kernel_rfl) (H9.out.below (by repeat (first | exact Below.refl _ _ | (with_reducible apply below_drewN) | (with_reducible apply Below.drew)))) (fun hHeld => ?_)
      change wpAnyH _ _ _ _ _ 8 _ _ _
      refine wpAnyH_take (i := 0) (oi := ?y7O0) (v := ?y7V0) ?y7I0 (by kernel_rfl) (by kernel_rfl) (by kernel_rfl) ?y7Q0 (Or.inl ⟨?y7W0, ?y7Y0⟩) hHeld ?y7R0
      case y7I0 => (simp only [List.getElem?_toArray, List.getElem?_cons_succ, List.getElem?_cons_zero]; exact rfl)
      case y7Q0 => exact fun _ _ _ h => h
      case y7W0 => kernel_rfl
      case y7Y0 => (intro W hSw; obtain ⟨c0, c1, c2⟩ := hSw.x.cells; go_simp; try with_reducible rfl)
      try simp only [Act.put, List.setIfInBounds_toArray, List.set_cons_zero, List.set_cons_succ]
      refine wpAnyH_take (i := 1) (oi := ?y7O1) (v := ?y7V1) ?y7I1 (by kernel_rfl) (by kernel_rfl) (by kernel_rfl) ?y7Q1 (Or.inl ⟨?y7W1, ?y7Y1⟩) hHeld ?y7R1
      case y7I1 => (simp only [List.getElem?_toArray, List.getElem?_cons_succ, List.getElem?_cons_zero]; exact rfl)
      case y7Q1 => exact fun _ _ _ h => h
      case y7W1 => kernel_rfl
      case y7Y1 => (intro W hSw; obtain ⟨c0, c1, c2⟩ := hSw.p.cells; go_simp; try with_reducible rfl)
      try simp only [Act.put, List.setIfInBounds_toArray, List.set_cons_zero, List.set_cons_succ]
      refine wpAnyH_take (i := 3) (oi := ?y7O3) (v := ?y7V3) ?y7I3 (by kernel_rfl) (by kernel_rfl) (by kernel_rfl) ?y7Q3 (Or.inl ⟨?y7W3, ?y7Y3⟩) hHeld ?y7R3
      case y7I3 => (simp only [List.getElem?_toArray, List.getElem?_cons_succ, List.getElem?_cons_zero]; exact rfl)
      case y7Q3 => exact fun _ _ _ h => h
      case y7W3 => kernel_rfl
      case y7Y3 => (intro W hSw; obtain ⟨c0, c1, c2⟩ := hSw.q.cells; go_simp; try with_reducible rfl)
      try simp only [Act.put, List.setIfInBounds_toArray, List.set_cons_zero, List.set_cons_succ]
      refine wpAnyH_take (i := 4) (oi := ?y7O4) (v := ?y7V4) ?y7I4 (by kernel_rfl) (by kernel_rfl) (by kernel_rfl) ?y7Q4 (Or.inl ⟨?y7W4, ?y7Y4⟩) hHeld ?y7R4
      case y7I4 => (simp only [List.getElem?_toArray, List.getElem?_cons_succ, List.getElem?_cons_zero]; exact rfl)
      case y7Q4 => exact fun _ _ _ h => h
      case y7W4 => kernel_rfl
      case y7Y4 => (intro W hSw; obtain ⟨c0, c1, c2⟩ := hSw.x.cells; go_simp; try with_reducible rfl)
      try simp only [Act.put, List.setIfInBounds_toArray, List.set_cons_zero, List.set_cons_succ]
      refine wpAnyH_ready (rs := [2]) (by kernel_rfl) (by simp) ?_
      refine AllReadyH.cons (o := ?y7O2) ?y7I2 (fun K hK => ?y7R2) AllReadyH.nil
      case y7I2 => (simp only [List.getElem?_toArray, List.getElem?_cons_succ, List.getElem?_cons_zero]; exact rfl)
      rw [if_pos (by kernel_rfl)]
      go_simp
      refine (HC1.out _ (by repeat (first | exact Below.refl _ _ | (with_reducible apply below_drewN) | (with_reducible apply Below.drew)))).mono ?_
      rintro e v1 ⟨n5, A5, l5, k5, x5, rfl, hR, hW⟩
      have hb : Below w9.heap.size w9 v1 := Below.trans (by repeat (first | exact Below.refl _ _ | (with_reducible apply below_drewN) | (with_reducible apply Below.drew))) hW
      have E1 := Lib.hid (H9.out.below hb)
      have R1 := Lib.hid hR
      clear hR hW hb HC1
      have HC2 := Lib.hid (fun (W : World) (hW : Below v1.heap.size v1 W) => minus_c 2148 w.heap.size 5000 (numV zh * ((2 ^ 1074 : Nat) : Int)) X n4 n1 A4 A1 l4 l1 k4 k1 x4 x1 W (Nat.le_trans E1.out.bel.size hW.size) ((E1.out.q.2.below hW).raise 1074) (E1.out.x.2.below hW) (raise_bd (numV_bd HZB.out.2)) HXB.out (by decide) (by decide))
      go_wp2_with fail
      clear hHeld
      refine hK.out _ _ E1.out (fun hHeld => ?_)
      clear hK K
      try simp only [Act.put, List.setIfInBounds_toArray, List.set_cons_zero, List.set_cons_succ]
      refine wpAnyH_ready (rs := [5]) (by kernel_rfl) (by simp) ?_
      refine AllReadyH.cons (o := ?y7O5) ?y7I5 (fun K hK => ?y7R5) AllReadyH.nil
      case y7I5 => (simp only [List.getElem?_toArray, List.getElem?_cons_succ, List.getElem?_cons_zero]; exact rfl)
      rw [if_pos (by kernel_rfl)]
      go_simp
      refine (HC2.out _ (by repeat (first | exact Below.refl _ _ | (with_reducible apply below_drewN) | (with_reducible apply Below.drew)))).mono ?_
      rintro e v2 ⟨n6, A6, l6, k6, x6, rfl, hR, hW⟩
      have hb : Below v1.heap.size v1 v2 := Below.trans (by repeat (first | exact Below.refl _ _ | (with_reducible apply below_drewN) | (with_reducible apply Below.drew))) hW
      have E2 := Lib.hid (E1.out.below hb)
      have R2 := Lib.hid hR
      have R1 := Lib.hid (R1.out.below hb)
      clear hR hW hb HC2
      have HC3 := Lib.hid (fun (W : World) (hW : Below v2.heap.size v2 W) => cmp_c 2148 w.heap.size 6000 (X - numV zl * ((2 ^ 1074 : Nat) : Int)) (numV zh * ((2 ^ 1074 : Nat) : Int) - X) n5 n6 A5 A6 l5 l6 k5 k6 x5 x6 W (Nat.le_trans E2.out.bel.size hW.size) (R1.out.below hW) (R2.out.below hW) (diff_bd HXB.out (raise_bd (numV_bd HZB.out.1))) (diff_bd (raise_bd (numV_bd HZB.out.2)) HXB.out) (by decide) (by decide))
      rw [HX6.out] at HC3
      go_wp2_with fail
      clear hHeld
      refine hK.out _ _ E2.out (fun hHeld => ?_)
      clear hK K
      try simp only [Act.put, List.setIfInBounds_toArray, List.set_cons_zero, List.set_cons_succ]
      refine wpAnyH_ready (rs := [6]) (by kernel_rfl) (by simp) ?_
      refine AllReadyH.cons (o := ?y7O6) ?y7I6 (fun K hK => ?y7R6) AllReadyH.nil
      case y7I6 => (simp only [List.getElem?_toArray, List.getElem?_cons_succ, List.getElem?_cons_zero]; exact rfl)
      rw [if_pos (by kernel_rfl)]
      go_simp
      refine (HC3.out _ (by repeat (first | exact Below.refl _ _ | (with_reducible apply below_drewN) | (with_reducible apply Below.drew)))).mono ?_
      rintro e v3 ⟨rfl, hW⟩
      have hb : Below v2.heap.size v2 v3 := Below.trans (by repeat (first | exact Below.refl _ _ | (with_reducible apply below_drewN) | (with_reducible apply Below.drew))) hW
      have E3 := Lib.hid (E2.out.below hb)
      clear hW hb HC3
      go_wp2_with fail
      clear hHeld
      refine hK.out _ _ E3.out (fun hHeld => ?_)
      clear hK K
      try simp only [Act.put, List.setIfInBounds_toArray, List.set_cons_zero, List.set_cons_succ]
      refine wpAnyH_take (i := 7) (oi := ?y7O7) (v := ?y7V7) ?y7I7 (by kernel_rfl) (by kernel_rfl) (by kernel_rfl) ?y7Q7 (Or.inl ⟨?y7W7, ?y7Y7⟩) hHeld ?y7R7
      case y7I7 => (simp only [List.getElem?_toArray, List.getElem?_cons_succ, List.getElem?_cons_zero]; exact rfl)
      case y7Q7 => exact fun _ _ _ h => h
      case y7W7 => kernel_rfl
      case y7Y7 => (intro W hSw; clear hSw; go_simp; try with_reducible rfl)
      try simp only [Act.put, List.setIfInBounds_toArray, List.set_cons_zero, List.set_cons_succ]
      refine wpAnyH_done (by kernel_rfl) ?_ _
      refine NoPanic.normal ?_
      go_wp2_with fail
      go_meet
      exact ⟨rfl, E3⟩
    case rest =>
      obtain ⟨rfl, hG2⟩ := hcut
      obtain ⟨u2, rfl⟩ : ∃ wo : World, wo = wc := ⟨_, rfl⟩
      have G2 := Lib.hid hG2.out
      clear hG2
      have h0 := HL0.out
      subst h0
      have hev : ∀ b : Bool, (b || true) = true := fun b => Bool.or_true b
      go_wp2_with fail
      refine (HBM.out _).mono ?_
      rintro e w' ⟨rfl, rfl⟩
      by_cases h2 : (zm : Int) % 2 = 0
      all_goals (
        go_wp2_with fail
        refine (started_calls _).mono ?_
        rintro e wz ⟨rfl, hW⟩
        have HZ := Lib.hid (below_next G2.out.bel hW)
        clear hW
        go_wp2
        go_ret
        exact ⟨rfl, HZ.out⟩
        )
end Go.Proofs.YtikdhkmcdmnadaaGreatFmtBesafter
