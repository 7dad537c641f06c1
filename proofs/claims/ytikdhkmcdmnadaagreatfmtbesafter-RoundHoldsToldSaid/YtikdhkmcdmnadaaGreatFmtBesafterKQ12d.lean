import Derived.Test.YtikdhkmcdmnadaaGreatFmtBesafterKQ12a
set_option linter.unusedVariables false
set_option linter.unusedSimpArgs false
namespace Go.Proofs.YtikdhkmcdmnadaaGreatFmtBesafter
open Go.RowKit
attribute [local go_sem ↓] Go.wp_at_zero Go.wp_at_succ

/-! ### RoundHolds (printed by gen_q12.py) -/
set_option exponentiation.threshold 6000 in
set_option maxHeartbeats 8000000 in
set_option maxRecDepth 100000 in
theorem holds_ne (c k : Int) (u v zl zh zm : Nat) (X : Int) (hk : 1 + c.tmod 3 % 3 = k) (hk3 : k = 1 ∨ k = 2 ∨ k = 3)
    (hex : ∀ W base, base ≤ W.heap.size → Calls Tryz.prog 4 #[.int .i64 k, .float .f64 u, .float .f64 v] W fun e w' => ∃ (neg : Bool) (A : Option Addr) (n k : Nat) (x : Int), e = .returned (.tuple #[.agg #[.bool neg, .slice A n k, .int .i64 x], .bool true]) ∧ NumC 2148 w' base X neg A n k x ∧ Below W.heap.size W w')
    (hlo : ∀ W, Calls Tryz.prog 5 #[.int .i64 k, .int .i64 2, .float .f64 u, .float .f64 v] W fun e w' => e = .returned (.tuple #[.float .f64 zl, .bool true]) ∧ Below W.heap.size W w')
    (hhi : ∀ W, Calls Tryz.prog 5 #[.int .i64 k, .int .i64 1, .float .f64 u, .float .f64 v] W fun e w' => e = .returned (.tuple #[.float .f64 zh, .bool true]) ∧ Below W.heap.size W w')
    (hme : ∀ W, Calls Tryz.prog 5 #[.int .i64 k, .int .i64 0, .float .f64 u, .float .f64 v] W fun e w' => e = .returned (.tuple #[.float .f64 zm, .bool true]) ∧ Below W.heap.size W w')
    (hxb : X.natAbs < 2 ^ 5000) (c1 c2 : Int) (hc1 : Int.sign (X - -numV 9218868437227405311 * ((2 ^ 1074 : Nat) : Int)) = c1) (hc2 : Int.sign (X - numV 9218868437227405311 * ((2 ^ 1074 : Nat) : Int)) = c2) (hl : 0 ≤ c1) (hh : c2 ≤ 0) (hzl : zl < 18446744073709551616) (hzh : zh < 18446744073709551616) (d1 d2 lf : Int) (hd1 : Int.sign (numV zl * ((2 ^ 1074 : Nat) : Int) - X) = d1) (hd2 : Int.sign (X - numV zh * ((2 ^ 1074 : Nat) : Int)) = d2) (hlf : Int.sign ((X - numV zl * ((2 ^ 1074 : Nat) : Int)) - (numV zh * ((2 ^ 1074 : Nat) : Int) - X)) = lf) (g1 : ¬ 0 < d1) (g2 : ¬ 0 < d2) (he : (FloatKind.f64.format.order zl zh == some .eq) = false) (hn : nextS 1 zl = some zh) (hqq : (FloatKind.f64.format.order zh zh == some .eq) = true) (g3 : ¬ d1 = 0) (g4 : ¬ d2 = 0)
    (hm : (FloatKind.f64.format.order zm zl == some .eq) = true ∨ ((FloatKind.f64.format.order zm zl == some .eq) = false ∧ (FloatKind.f64.format.order zm zh == some .eq) = true))
    (hend : (lf = -1 ∧ (FloatKind.f64.format.order zm zl == some .eq) = true) ∨ (lf = 1 ∧ (FloatKind.f64.format.order zm zh == some .eq) = true) ∨ (lf = 0 ∧ zm % 2 = 0))
    (w : World) :
    Calls Tryz.prog 3 #[.int .i64 c, .float .f64 u, .float .f64 v] w fun e w' => e = .returned (.bool true) ∧ Below w.heap.size w w' := by
  have HCS := Lib.hid (cs_in (by rw [← hc1]; exact sign_in _) (by rw [← hc2]; exact sign_in _) hl hh)
  have HXB := Lib.hid hxb
  have HX1 := Lib.hid hc1
  have HX2 := Lib.hid hc2
  have HX3 := Lib.hid hd1
  have HX5 := Lib.hid hd2
  have HX6 := Lib.hid hlf
  have HZB := Lib.hid (And.intro hzl hzh)
  have HBM := Lib.hid (fun W => apibits_calls zm W)
  have HEX := Lib.hid hex
  have HLO := Lib.hid hlo
  have HHI := Lib.hid hhi
  have HME := Lib.hid hme
  have hm1 : -2 ≤ c.tmod 3 ∧ c.tmod 3 ≤ 2 := by
    have := Int.tmod_lt_of_pos c (show (0 : Int) < 3 by decide)
    have := Int.lt_tmod_of_pos c (show (0 : Int) < 3 by decide)
    omega
  clear hex hlo hhi hme hxb hc1 hc2 hd1 hd2 hlf hzl hzh
  go_enter Tryz.func3, Tryz.ntmps3
  go_wp2_with fail
  try rw [hk]
  clear hk hk3 hm1
  refine (HEX.out w w.heap.size (Nat.le_refl _)).mono ?_
  rintro e w1 ⟨n1, A1, l1, k1, x1, rfl, hR, hW⟩
  have hB := below_new (Below.refl w1.heap.size w1) (.cells #[.bool n1, .slice A1 l1 k1, .int .i64 x1] 25)
  have H1 := Lib.hid (And.intro (NK.new hR) (below_next hW hB))
  clear hR hW hB
  go_wp2_with fail
  refine (HLO.out _).mono ?_
  rintro e w2 ⟨rfl, hW⟩
  have H2 := Lib.hid (And.intro (H1.out.1.below hW) (below_next H1.out.2 hW))
  clear hW H1
  go_wp2_with fail
  refine (HHI.out _).mono ?_
  rintro e w3 ⟨rfl, hW⟩
  have H3 := Lib.hid (And.intro (H2.out.1.below hW) (below_next H2.out.2 hW))
  clear hW H2
  go_wp2_with fail
  refine (HME.out _).mono ?_
  rintro e w4 ⟨rfl, hW⟩
  have H4 := Lib.hid (And.intro (H3.out.1.below hW) (below_next H3.out.2 hW))
  clear hW H3 HEX HLO HHI HME
  go_wp2_with fail
  refine (of_calls 9218868437227405311 w.heap.size w4 (by decide)).mono ?_
  rintro e w5 ⟨n2, A2, l2, k2, x2, rfl, hR, hW⟩
  have hB := below_new (Below.refl w5.heap.size w5) (.cells #[.bool n2, .slice A2 l2 k2, .int .i64 x2] 25)
  have hb1 := below_next hW hB
  have H5 : Hid (Two w (w5.alloc (.cells #[.bool n2, .slice A2 l2 k2, .int .i64 x2] 25)) w.heap.size w1.heap.size w5.heap.size X (numV 9218868437227405311) n1 n2 A1 A2 l1 l2 k1 k2 x1 x2) := ⟨H4.out.1.below hb1, NK.new hR, below_next H4.out.2 hb1⟩
  clear hR hW hB hb1 H4
  go_upto_region 9 with fail
  go_cut [105] (fun s wx => s = .bool false ∧ Hid (Two w wx w.heap.size w1.heap.size w5.heap.size X (numV 9218868437227405311) n1 n2 A1 A2 l1 l2 k1 k2 x1 x2))
  case first =>
    obtain ⟨v0, hv0⟩ : ∃ W, W = (w5.alloc (.cells #[.bool n2, .slice A2 l2 k2, .int .i64 x2] 25)) := ⟨_, rfl⟩
    rw [← hv0] at H5 ⊢
    clear hv0
    have HC1 := Lib.hid (fun (W : World) (hW : Below v0.heap.size v0 W) => turned_c 1074 w.heap.size (numV 9218868437227405311) n2 A2 l2 k2 x2 W (H5.out.t.2.below hW))
    rcases HCS.out with ⟨rfl, rfl⟩ | ⟨rfl, rfl⟩ | ⟨rfl, rfl⟩ | ⟨rfl, rfl⟩
    · refine wp_region_noPanic ?_
      refine wp_region_held_drew (S := (fun wx => Two w wx w.heap.size w1.heap.size w5.heap.size X (numV 9218868437227405311) n1 n2 A1 A2 l1 l2 k1 k2 x1 x2)) (by kernel_rfl) (H5.out.below (by repeat (first | exact Below.refl _ _ | (with_reducible apply below_drewN) | (with_reducible apply Below.drew)))) (fun hHeld => ?_)
      change wpAnyH _ _ _ _ _ 15 _ _ _
      refine wpAnyH_take (i := 0) (oi := ?y14O0) (v := ?y14V0) ?y14I0 (by kernel_rfl) (by kernel_rfl) (by kernel_rfl) ?y14Q0 (Or.inl ⟨?y14W0, ?y14Y0⟩) hHeld ?y14R0
      case y14I0 => (simp only [List.getElem?_toArray, List.getElem?_cons_succ, List.getElem?_cons_zero]; exact rfl)
      case y14Q0 => exact fun _ _ _ h => h
      case y14W0 => kernel_rfl
      case y14Y0 => (intro W hSw; clear hSw; go_simp; try with_reducible rfl)
      try simp only [Act.put, List.setIfInBounds_toArray, List.set_cons_zero, List.set_cons_succ]
      refine wpAnyH_take (i := 1) (oi := ?y14O1) (v := ?y14V1) ?y14I1 (by kernel_rfl) (by kernel_rfl) (by kernel_rfl) ?y14Q1 (Or.inl ⟨?y14W1, ?y14Y1⟩) hHeld ?y14R1
      case y14I1 => (simp only [List.getElem?_toArray, List.getElem?_cons_succ, List.getElem?_cons_zero]; exact rfl)
      case y14Q1 => exact fun _ _ _ h => h
      case y14W1 => kernel_rfl
      case y14Y1 => (intro W hSw; obtain ⟨c0, c1, c2⟩ := hSw.x.cells; go_simp; try with_reducible rfl)
      try simp only [Act.put, List.setIfInBounds_toArray, List.set_cons_zero, List.set_cons_succ]
      refine wpAnyH_take (i := 2) (oi := ?y14O2) (v := ?y14V2) ?y14I2 (by kernel_rfl) (by kernel_rfl) (by kernel_rfl) ?y14Q2 (Or.inl ⟨?y14W2, ?y14Y2⟩) hHeld ?y14R2
      case y14I2 => (simp only [List.getElem?_toArray, List.getElem?_cons_succ, List.getElem?_cons_zero]; exact rfl)
      case y14Q2 => exact fun _ _ _ h => h
      case y14W2 => kernel_rfl
      case y14Y2 => (intro W hSw; obtain ⟨c0, c1, c2⟩ := hSw.t.cells; go_simp; try with_reducible rfl)
      try simp only [Act.put, List.setIfInBounds_toArray, List.set_cons_zero, List.set_cons_succ]
      refine wpAnyH_ready (rs := [3]) (by kernel_rfl) (by simp) ?_
      refine AllReadyH.cons (o := ?y14O3) ?y14I3 (fun K hK => ?y14R3) AllReadyH.nil
      case y14I3 => (simp only [List.getElem?_toArray, List.getElem?_cons_succ, List.getElem?_cons_zero]; exact rfl)
      rw [if_pos (by kernel_rfl)]
      go_simp
      refine (HC1.out _ (by repeat (first | exact Below.refl _ _ | (with_reducible apply below_drewN) | (with_reducible apply Below.drew)))).mono ?_
      rintro e v1 ⟨n5, A5, l5, k5, x5, rfl, hR, hW⟩
      have hb : Below v0.heap.size v0 v1 := Below.trans (by repeat (first | exact Below.refl _ _ | (with_reducible apply below_drewN) | (with_reducible apply Below.drew))) hW
      have E1 := Lib.hid (H5.out.below hb)
      have R1 := Lib.hid hR
      clear hR hW hb HC1
      have HC2 := Lib.hid (fun (W : World) (hW : Below v1.heap.size v1 W) => cmp_c 2148 w.heap.size 5000 X ((-numV 9218868437227405311) * ((2 ^ 1074 : Nat) : Int)) n1 n5 A1 A5 l1 l5 k1 k5 x1 x5 W (Nat.le_trans E1.out.bel.size hW.size) (E1.out.x.2.below hW) ((R1.out.below hW).raise 1074) HXB.out (raise_bd (by rw [Int.natAbs_neg]; exact numV_bd (u := 9218868437227405311) (by decide))) (by decide) (by decide))
      rw [HX1.out] at HC2
      go_wp2_with fail
      clear hHeld
      refine hK.out _ _ E1.out (fun hHeld => ?_)
      clear hK K
      try simp only [Act.put, List.setIfInBounds_toArray, List.set_cons_zero, List.set_cons_succ]
      refine wpAnyH_ready (rs := [4]) (by kernel_rfl) (by simp) ?_
      refine AllReadyH.cons (o := ?y14O4) ?y14I4 (fun K hK => ?y14R4) AllReadyH.nil
      case y14I4 => (simp only [List.getElem?_toArray, List.getElem?_cons_succ, List.getElem?_cons_zero]; exact rfl)
      rw [if_pos (by kernel_rfl)]
      go_simp
      refine (HC2.out _ (by repeat (first | exact Below.refl _ _ | (with_reducible apply below_drewN) | (with_reducible apply Below.drew)))).mono ?_
      rintro e v2 ⟨rfl, hW⟩
      have hb : Below v1.heap.size v1 v2 := Below.trans (by repeat (first | exact Below.refl _ _ | (with_reducible apply below_drewN) | (with_reducible apply Below.drew))) hW
      have E2 := Lib.hid (E1.out.below hb)
      clear hW hb HC2
      have HC3 := Lib.hid (fun (W : World) (hW : Below v2.heap.size v2 W) => cmp_c 2148 w.heap.size 5000 X (numV 9218868437227405311 * ((2 ^ 1074 : Nat) : Int)) n1 n2 A1 A2 l1 l2 k1 k2 x1 x2 W (Nat.le_trans E2.out.bel.size hW.size) (E2.out.x.2.below hW) ((E2.out.t.2.below hW).raise 1074) HXB.out (raise_bd (numV_bd (u := 9218868437227405311) (by decide))) (by decide) (by decide))
      rw [HX2.out] at HC3
      go_wp2_with fail
      clear hHeld
      refine hK.out _ _ E2.out (fun hHeld => ?_)
      clear hK K
      try simp only [Act.put, List.setIfInBounds_toArray, List.set_cons_zero, List.set_cons_succ]
      refine wpAnyH_take (i := 5) (oi := ?y14O5) (v := ?y14V5) ?y14I5 (by kernel_rfl) (by kernel_rfl) (by kernel_rfl) ?y14Q5 (Or.inl ⟨?y14W5, ?y14Y5⟩) hHeld ?y14R5
      case y14I5 => (simp only [List.getElem?_toArray, List.getElem?_cons_succ, List.getElem?_cons_zero]; exact rfl)
      case y14Q5 => exact fun _ _ _ h => h
      case y14W5 => kernel_rfl
      case y14Y5 => (intro W hSw; clear hSw; go_simp; try with_reducible rfl)
      try simp only [Act.put, List.setIfInBounds_toArray, List.set_cons_zero, List.set_cons_succ]
      refine wpAnyH_take (i := 6) (oi := ?y14O6) (v := ?y14V6) ?y14I6 (by kernel_rfl) (by kernel_rfl) (by kernel_rfl) ?y14Q6 (Or.inl ⟨?y14W6, ?y14Y6⟩) hHeld ?y14R6
      case y14I6 => (simp only [List.getElem?_toArray, List.getElem?_cons_succ, List.getElem?_cons_zero]; exact rfl)
      case y14Q6 => exact fun _ _ _ h => h
      case y14W6 => kernel_rfl
      case y14Y6 => (intro W hSw; clear hSw; go_simp; try with_reducible rfl)
      try simp only [Act.put, List.setIfInBounds_toArray, List.set_cons_zero, List.set_cons_succ]
      refine wpAnyH_take (i := 7) (oi := ?y14O7) (v := ?y14V7) ?y14I7 (by kernel_rfl) (by kernel_rfl) (by kernel_rfl) ?y14Q7 (Or.inl ⟨?y14W7, ?y14Y7⟩) hHeld ?y14R7
      case y14I7 => (simp only [List.getElem?_toArray, List.getElem?_cons_succ, List.getElem?_cons_zero]; exact rfl)
      case y14Q7 => exact fun _ _ _ h => h
      case y14W7 => kernel_rfl
      case y14Y7 => (intro W hSw; clear hSw; go_simp; try with_reducible rfl)
      try simp only [Act.put, List.setIfInBounds_toArray, List.set_cons_zero, List.set_cons_succ]
      refine wpAnyH_take (i := 8) (oi := ?y14O8) (v := ?y14V8) ?y14I8 (by kernel_rfl) (by kernel_rfl) (by kernel_rfl) ?y14Q8 (Or.inl ⟨?y14W8, ?y14Y8⟩) hHeld ?y14R8
      case y14I8 => (simp only [List.getElem?_toArray, List.getElem?_cons_succ, List.getElem?_cons_zero]; exact rfl)
      case y14Q8 => exact fun _ _ _ h => h
      case y14W8 => kernel_rfl
      case y14Y8 => (intro W hSw; clear hSw; go_simp; try with_reducible rfl)
      try simp only [Act.put, List.setIfInBounds_toArray, List.set_cons_zero, List.set_cons_succ]
      refine wpAnyH_take (i := 9) (oi := ?y14O9) (v := ?y14V9) ?y14I9 (by kernel_rfl) (by kernel_rfl) (by kernel_rfl) ?y14Q9 (Or.inl ⟨?y14W9, ?y14Y9⟩) hHeld ?y14R9
      case y14I9 => (simp only [List.getElem?_toArray, List.getElem?_cons_succ, List.getElem?_cons_zero]; exact rfl)
      case y14Q9 => exact fun _ _ _ h => h
      case y14W9 => kernel_rfl
      case y14Y9 => (intro W hSw; obtain ⟨c0, c1, c2⟩ := hSw.x.cells; go_simp; try with_reducible rfl)
      try simp only [Act.put, List.setIfInBounds_toArray, List.set_cons_zero, List.set_cons_succ]
      refine wpAnyH_take (i := 10) (oi := ?y14O10) (v := ?y14V10) ?y14I10 (by kernel_rfl) (by kernel_rfl) (by kernel_rfl) ?y14Q10 (Or.inl ⟨?y14W10, ?y14Y10⟩) hHeld ?y14R10
      case y14I10 => (simp only [List.getElem?_toArray, List.getElem?_cons_succ, List.getElem?_cons_zero]; exact rfl)
      case y14Q10 => exact fun _ _ _ h => h
      case y14W10 => kernel_rfl
      case y14Y10 => (intro W hSw; obtain ⟨c0, c1, c2⟩ := hSw.t.cells; go_simp; try with_reducible rfl)
      try simp only [Act.put, List.setIfInBounds_toArray, List.set_cons_zero, List.set_cons_succ]
      refine wpAnyH_ready (rs := [11]) (by kernel_rfl) (by simp) ?_
      refine AllReadyH.cons (o := ?y14O11) ?y14I11 (fun K hK => ?y14R11) AllReadyH.nil
      case y14I11 => (simp only [List.getElem?_toArray, List.getElem?_cons_succ, List.getElem?_cons_zero]; exact rfl)
      rw [if_pos (by kernel_rfl)]
      go_simp
      refine (HC3.out _ (by repeat (first | exact Below.refl _ _ | (with_reducible apply below_drewN) | (with_reducible apply Below.drew)))).mono ?_
      rintro e v3 ⟨rfl, hW⟩
      have hb : Below v2.heap.size v2 v3 := Below.trans (by repeat (first | exact Below.refl _ _ | (with_reducible apply below_drewN) | (with_reducible apply Below.drew))) hW
      have E3 := Lib.hid (E2.out.below hb)
      clear hW hb HC3
      go_wp2_with fail
      clear hHeld
      refine hK.out _ _ E3.out (fun hHeld => ?_)
      clear hK K
      try simp only [Act.put, List.setIfInBounds_toArray, List.set_cons_zero, List.set_cons_succ]
      refine wpAnyH_take (i := 12) (oi := ?y14O12) (v := ?y14V12) ?y14I12 (by kernel_rfl) (by kernel_rfl) (by kernel_rfl) ?y14Q12 (Or.inl ⟨?y14W12, ?y14Y12⟩) hHeld ?y14R12
      case y14I12 => (simp only [List.getElem?_toArray, List.getElem?_cons_succ, List.getElem?_cons_zero]; exact rfl)
      case y14Q12 => exact fun _ _ _ h => h
      case y14W12 => kernel_rfl
      case y14Y12 => (intro W hSw; clear hSw; go_simp; try with_reducible rfl)
      try simp only [Act.put, List.setIfInBounds_toArray, List.set_cons_zero, List.set_cons_succ]
      refine wpAnyH_take (i := 13) (oi := ?y14O13) (v := ?y14V13) ?y14I13 (by kernel_rfl) (by kernel_rfl) (by kernel_rfl) ?y14Q13 (Or.inl ⟨?y14W13, ?y14Y13⟩) hHeld ?y14R13
      case y14I13 => (simp only [List.getElem?_toArray, List.getElem?_cons_succ, List.getElem?_cons_zero]; exact rfl)
      case y14Q13 => exact fun _ _ _ h => h
      case y14W13 => kernel_rfl
      case y14Y13 => (intro W hSw; clear hSw; go_simp; try with_reducible rfl)
      try simp only [Act.put, List.setIfInBounds_toArray, List.set_cons_zero, List.set_cons_succ]
      refine wpAnyH_take (i := 14) (oi := ?y14O14) (v := ?y14V14) ?y14I14 (by kernel_rfl) (by kernel_rfl) (by kernel_rfl) ?y14Q14 (Or.inl ⟨?y14W14, ?y14Y14⟩) hHeld ?y14R14
      case y14I14 => (simp only [List.getElem?_toArray, List.getElem?_cons_succ, List.getElem?_cons_zero]; exact rfl)
      case y14Q14 => exact fun _ _ _ h => h
      case y14W14 => kernel_rfl
      case y14Y14 => (intro W hSw; clear hSw; go_simp; try with_reducible rfl)
      try simp only [Act.put, List.setIfInBounds_toArray, List.set_cons_zero, List.set_cons_succ]
      refine wpAnyH_done (by kernel_rfl) ?_ _
      refine NoPanic.normal ?_
      go_wp2_with fail
      go_meet
      exact ⟨rfl, E3⟩
    · refine wp_region_noPanic ?_
      refine wp_region_held_drew (S := (fun wx => Two w wx w.heap.size w1.heap.size w5.heap.size X (numV 9218868437227405311) n1 n2 A1 A2 l1 l2 k1 k2 x1 x2)) (by kernel_rfl) (H5.out.below (by repeat (first | exact Below.refl _ _ | (with_reducible apply below_drewN) | (with_reducible apply Below.drew)))) (fun hHeld => ?_)
      change wpAnyH _ _ _ _ _ 15 _ _ _
      refine wpAnyH_take (i := 0) (oi := ?y15O0) (v := ?y15V0) ?y15I0 (by kernel_rfl) (by kernel_rfl) (by kernel_rfl) ?y15Q0 (Or.inl ⟨?y15W0, ?y15Y0⟩) hHeld ?y15R0
      case y15I0 => (simp only [List.getElem?_toArray, List.getElem?_cons_succ, List.getElem?_cons_zero]; exact rfl)
      case y15Q0 => exact fun _ _ _ h => h
      case y15W0 => kernel_rfl
      case y15Y0 => (intro W hSw; clear hSw; go_simp; try with_reducible rfl)
      try simp only [Act.put, List.setIfInBounds_toArray, List.set_cons_zero, List.set_cons_succ]
      refine wpAnyH_take (i := 1) (oi := ?y15O1) (v := ?y15V1) ?y15I1 (by kernel_rfl) (by kernel_rfl) (by kernel_rfl) ?y15Q1 (Or.inl ⟨?y15W1, ?y15Y1⟩) hHeld ?y15R1
      case y15I1 => (simp only [List.getElem?_toArray, List.getElem?_cons_succ, List.getElem?_cons_zero]; exact rfl)
      case y15Q1 => exact fun _ _ _ h => h
      case y15W1 => kernel_rfl
      case y15Y1 => (intro W hSw; obtain ⟨c0, c1, c2⟩ := hSw.x.cells; go_simp; try with_reducible rfl)
      try simp only [Act.put, List.setIfInBounds_toArray, List.set_cons_zero, List.set_cons_succ]
      refine wpAnyH_take (i := 2) (oi := ?y15O2) (v := ?y15V2) ?y15I2 (by kernel_rfl) (by kernel_rfl) (by kernel_rfl) ?y15Q2 (Or.inl ⟨?y15W2, ?y15Y2⟩) hHeld ?y15R2
      case y15I2 => (simp only [List.getElem?_toArray, List.getElem?_cons_succ, List.getElem?_cons_zero]; exact rfl)
      case y15Q2 => exact fun _ _ _ h => h
      case y15W2 => kernel_rfl
      case y15Y2 => (intro W hSw; obtain ⟨c0, c1, c2⟩ := hSw.t.cells; go_simp; try with_reducible rfl)
      try simp only [Act.put, List.setIfInBounds_toArray, List.set_cons_zero, List.set_cons_succ]
      refine wpAnyH_ready (rs := [3]) (by kernel_rfl) (by simp) ?_
      refine AllReadyH.cons (o := ?y15O3) ?y15I3 (fun K hK => ?y15R3) AllReadyH.nil
      case y15I3 => (simp only [List.getElem?_toArray, List.getElem?_cons_succ, List.getElem?_cons_zero]; exact rfl)
      rw [if_pos (by kernel_rfl)]
      go_simp
      refine (HC1.out _ (by repeat (first | exact Below.refl _ _ | (with_reducible apply below_drewN) | (with_reducible apply Below.drew)))).mono ?_
      rintro e v1 ⟨n5, A5, l5, k5, x5, rfl, hR, hW⟩
      have hb : Below v0.heap.size v0 v1 := Below.trans (by repeat (first | exact Below.refl _ _ | (with_reducible apply below_drewN) | (with_reducible apply Below.drew))) hW
      have E1 := Lib.hid (H5.out.below hb)
      have R1 := Lib.hid hR
      clear hR hW hb HC1
      have HC2 := Lib.hid (fun (W : World) (hW : Below v1.heap.size v1 W) => cmp_c 2148 w.heap.size 5000 X ((-numV 9218868437227405311) * ((2 ^ 1074 : Nat) : Int)) n1 n5 A1 A5 l1 l5 k1 k5 x1 x5 W (Nat.le_trans E1.out.bel.size hW.size) (E1.out.x.2.below hW) ((R1.out.below hW).raise 1074) HXB.out (raise_bd (by rw [Int.natAbs_neg]; exact numV_bd (u := 9218868437227405311) (by decide))) (by decide) (by decide))
      rw [HX1.out] at HC2
      go_wp2_with fail
      clear hHeld
      refine hK.out _ _ E1.out (fun hHeld => ?_)
      clear hK K
      try simp only [Act.put, List.setIfInBounds_toArray, List.set_cons_zero, List.set_cons_succ]
      refine wpAnyH_ready (rs := [4]) (by kernel_rfl) (by simp) ?_
      refine AllReadyH.cons (o := ?y15O4) ?y15I4 (fun K hK => ?y15R4) AllReadyH.nil
      case y15I4 => (simp only [List.getElem?_toArray, List.getElem?_cons_succ, List.getElem?_cons_zero]; exact rfl)
      rw [if_pos (by kernel_rfl)]
      go_simp
      refine (HC2.out _ (by repeat (first | exact Below.refl _ _ | (with_reducible apply below_drewN) | (with_reducible apply Below.drew)))).mono ?_
      rintro e v2 ⟨rfl, hW⟩
      have hb : Below v1.heap.size v1 v2 := Below.trans (by repeat (first | exact Below.refl _ _ | (with_reducible apply below_drewN) | (with_reducible apply Below.drew))) hW
      have E2 := Lib.hid (E1.out.below hb)
      clear hW hb HC2
      have HC3 := Lib.hid (fun (W : World) (hW : Below v2.heap.size v2 W) => cmp_c 2148 w.heap.size 5000 X (numV 9218868437227405311 * ((2 ^ 1074 : Nat) : Int)) n1 n2 A1 A2 l1 l2 k1 k2 x1 x2 W (Nat.le_trans E2.out.bel.size hW.size) (E2.out.x.2.below hW) ((E2.out.t.2.below hW).raise 1074) HXB.out (raise_bd (numV_bd (u := 9218868437227405311) (by decide))) (by decide) (by decide))
      rw [HX2.out] at HC3
      go_wp2_with fail
      clear hHeld
      refine hK.out _ _ E2.out (fun hHeld => ?_)
      clear hK K
      try simp only [Act.put, List.setIfInBounds_toArray, List.set_cons_zero, List.set_cons_succ]
      refine wpAnyH_take (i := 5) (oi := ?y15O5) (v := ?y15V5) ?y15I5 (by kernel_rfl) (by kernel_rfl) (by kernel_rfl) ?y15Q5 (Or.inl ⟨?y15W5, ?y15Y5⟩) hHeld ?y15R5
      case y15I5 => (simp only [List.getElem?_toArray, List.getElem?_cons_succ, List.getElem?_cons_zero]; exact rfl)
      case y15Q5 => exact fun _ _ _ h => h
      case y15W5 => kernel_rfl
      case y15Y5 => (intro W hSw; clear hSw; go_simp; try with_reducible rfl)
      try simp only [Act.put, List.setIfInBounds_toArray, List.set_cons_zero, List.set_cons_succ]
      refine wpAnyH_take (i := 6) (oi := ?y15O6) (v := ?y15V6) ?y15I6 (by kernel_rfl) (by kernel_rfl) (by kernel_rfl) ?y15Q6 (Or.inl ⟨?y15W6, ?y15Y6⟩) hHeld ?y15R6
      case y15I6 => (simp only [List.getElem?_toArray, List.getElem?_cons_succ, List.getElem?_cons_zero]; exact rfl)
      case y15Q6 => exact fun _ _ _ h => h
      case y15W6 => kernel_rfl
      case y15Y6 => (intro W hSw; clear hSw; go_simp; try with_reducible rfl)
      try simp only [Act.put, List.setIfInBounds_toArray, List.set_cons_zero, List.set_cons_succ]
      refine wpAnyH_take (i := 7) (oi := ?y15O7) (v := ?y15V7) ?y15I7 (by kernel_rfl) (by kernel_rfl) (by kernel_rfl) ?y15Q7 (Or.inl ⟨?y15W7, ?y15Y7⟩) hHeld ?y15R7
      case y15I7 => (simp only [List.getElem?_toArray, List.getElem?_cons_succ, List.getElem?_cons_zero]; exact rfl)
      case y15Q7 => exact fun _ _ _ h => h
      case y15W7 => kernel_rfl
      case y15Y7 => (intro W hSw; clear hSw; go_simp; try with_reducible rfl)
      try simp only [Act.put, List.setIfInBounds_toArray, List.set_cons_zero, List.set_cons_succ]
      refine wpAnyH_take (i := 8) (oi := ?y15O8) (v := ?y15V8) ?y15I8 (by kernel_rfl) (by kernel_rfl) (by kernel_rfl) ?y15Q8 (Or.inl ⟨?y15W8, ?y15Y8⟩) hHeld ?y15R8
      case y15I8 => (simp only [List.getElem?_toArray, List.getElem?_cons_succ, List.getElem?_cons_zero]; exact rfl)
      case y15Q8 => exact fun _ _ _ h => h
      case y15W8 => kernel_rfl
      case y15Y8 => (intro W hSw; clear hSw; go_simp; try with_reducible rfl)
      try simp only [Act.put, List.setIfInBounds_toArray, List.set_cons_zero, List.set_cons_succ]
      refine wpAnyH_take (i := 9) (oi := ?y15O9) (v := ?y15V9) ?y15I9 (by kernel_rfl) (by kernel_rfl) (by kernel_rfl) ?y15Q9 (Or.inl ⟨?y15W9, ?y15Y9⟩) hHeld ?y15R9
      case y15I9 => (simp only [List.getElem?_toArray, List.getElem?_cons_succ, List.getElem?_cons_zero]; exact rfl)
      case y15Q9 => exact fun _ _ _ h => h
      case y15W9 => kernel_rfl
      case y15Y9 => (intro W hSw; obtain ⟨c0, c1, c2⟩ := hSw.x.cells; go_simp; try with_reducible rfl)
      try simp only [Act.put, List.setIfInBounds_toArray, List.set_cons_zero, List.set_cons_succ]
      refine wpAnyH_take (i := 10) (oi := ?y15O10) (v := ?y15V10) ?y15I10 (by kernel_rfl) (by kernel_rfl) (by kernel_rfl) ?y15Q10 (Or.inl ⟨?y15W10, ?y15Y10⟩) hHeld ?y15R10
      case y15I10 => (simp only [List.getElem?_toArray, List.getElem?_cons_succ, List.getElem?_cons_zero]; exact rfl)
      case y15Q10 => exact fun _ _ _ h => h
      case y15W10 => kernel_rfl
      case y15Y10 => (intro W hSw; obtain ⟨c0, c1, c2⟩ := hSw.t.cells; go_simp; try with_reducible rfl)
      try simp only [Act.put, List.setIfInBounds_toArray, List.set_cons_zero, List.set_cons_succ]
      refine wpAnyH_ready (rs := [11]) (by kernel_rfl) (by simp) ?_
      refine AllReadyH.cons (o := ?y15O11) ?y15I11 (fun K hK => ?y15R11) AllReadyH.nil
      case y15I11 => (simp only [List.getElem?_toArray, List.getElem?_cons_succ, List.getElem?_cons_zero]; exact rfl)
      rw [if_pos (by kernel_rfl)]
      go_simp
      refine (HC3.out _ (by repeat (first | exact Below.refl _ _ | (with_reducible apply below_drewN) | (with_reducible apply Below.drew)))).mono ?_
      rintro e v3 ⟨rfl, hW⟩
      have hb : Below v2.heap.size v2 v3 := Below.trans (by repeat (first | exact Below.refl _ _ | (with_reducible apply below_drewN) | (with_reducible apply Below.drew))) hW
      have E3 := Lib.hid (E2.out.below hb)
      clear hW hb HC3
      go_wp2_with fail
      clear hHeld
      refine hK.out _ _ E3.out (fun hHeld => ?_)
      clear hK K
      try simp only [Act.put, List.setIfInBounds_toArray, List.set_cons_zero, List.set_cons_succ]
      refine wpAnyH_take (i := 12) (oi := ?y15O12) (v := ?y15V12) ?y15I12 (by kernel_rfl) (by kernel_rfl) (by kernel_rfl) ?y15Q12 (Or.inl ⟨?y15W12, ?y15Y12⟩) hHeld ?y15R12
      case y15I12 => (simp only [List.getElem?_toArray, List.getElem?_cons_succ, List.getElem?_cons_zero]; exact rfl)
      case y15Q12 => exact fun _ _ _ h => h
      case y15W12 => kernel_rfl
      case y15Y12 => (intro W hSw; clear hSw; go_simp; try with_reducible rfl)
      try simp only [Act.put, List.setIfInBounds_toArray, List.set_cons_zero, List.set_cons_succ]
      refine wpAnyH_take (i := 13) (oi := ?y15O13) (v := ?y15V13) ?y15I13 (by kernel_rfl) (by kernel_rfl) (by kernel_rfl) ?y15Q13 (Or.inl ⟨?y15W13, ?y15Y13⟩) hHeld ?y15R13
      case y15I13 => (simp only [List.getElem?_toArray, List.getElem?_cons_succ, List.getElem?_cons_zero]; exact rfl)
      case y15Q13 => exact fun _ _ _ h => h
      case y15W13 => kernel_rfl
      case y15Y13 => (intro W hSw; clear hSw; go_simp; try with_reducible rfl)
      try simp only [Act.put, List.setIfInBounds_toArray, List.set_cons_zero, List.set_cons_succ]
      refine wpAnyH_take (i := 14) (oi := ?y15O14) (v := ?y15V14) ?y15I14 (by kernel_rfl) (by kernel_rfl) (by kernel_rfl) ?y15Q14 (Or.inl ⟨?y15W14, ?y15Y14⟩) hHeld ?y15R14
      case y15I14 => (simp only [List.getElem?_toArray, List.getElem?_cons_succ, List.getElem?_cons_zero]; exact rfl)
      case y15Q14 => exact fun _ _ _ h => h
      case y15W14 => kernel_rfl
      case y15Y14 => (intro W hSw; clear hSw; go_simp; try with_reducible rfl)
      try simp only [Act.put, List.setIfInBounds_toArray, List.set_cons_zero, List.set_cons_succ]
      refine wpAnyH_done (by kernel_rfl) ?_ _
      refine NoPanic.normal ?_
      go_wp2_with fail
      go_meet
      exact ⟨rfl, E3⟩
    · refine wp_region_noPanic ?_
      refine wp_region_held_drew (S := (fun wx => Two w wx w.heap.size w1.heap.size w5.heap.size X (numV 9218868437227405311) n1 n2 A1 A2 l1 l2 k1 k2 x1 x2)) (by kernel_rfl) (H5.out.below (by repeat (first | exact Below.refl _ _ | (with_reducible apply below_drewN) | (with_reducible apply Below.drew)))) (fun hHeld => ?_)
      change wpAnyH _ _ _ _ _ 15 _ _ _
      refine wpAnyH_take (i := 0) (oi := ?y16O0) (v := ?y16V0) ?y16I0 (by kernel_rfl) (by kernel_rfl) (by kernel_rfl) ?y16Q0 (Or.inl ⟨?y16W0, ?y16Y0⟩) hHeld ?y16R0
      case y16I0 => (simp only [List.getElem?_toArray, List.getElem?_cons_succ, List.getElem?_cons_zero]; exact rfl)
      case y16Q0 => exact fun _ _ _ h => h
      case y16W0 => kernel_rfl
      case y16Y0 => (intro W hSw; clear hSw; go_simp; try with_reducible rfl)
      try simp only [Act.put, List.setIfInBounds_toArray, List.set_cons_zero, List.set_cons_succ]
      refine wpAnyH_take (i := 1) (oi := ?y16O1) (v := ?y16V1) ?y16I1 (by kernel_rfl) (by kernel_rfl) (by kernel_rfl) ?y16Q1 (Or.inl ⟨?y16W1, ?y16Y1⟩) hHeld ?y16R1
      case y16I1 => (simp only [List.getElem?_toArray, List.getElem?_cons_succ, List.getElem?_cons_zero]; exact rfl)
      case y16Q1 => exact fun _ _ _ h => h
      case y16W1 => kernel_rfl
      case y16Y1 => (intro W hSw; obtain ⟨c0, c1, c2⟩ := hSw.x.cells; go_simp; try with_reducible rfl)
      try simp only [Act.put, List.setIfInBounds_toArray, List.set_cons_zero, List.set_cons_succ]
      refine wpAnyH_take (i := 2) (oi := ?y16O2) (v := ?y16V2) ?y16I2 (by kernel_rfl) (by kernel_rfl) (by kernel_rfl) ?y16Q2 (Or.inl ⟨?y16W2, ?y16Y2⟩) hHeld ?y16R2
      case y16I2 => (simp only [List.getElem?_toArray, List.getElem?_cons_succ, List.getElem?_cons_zero]; exact rfl)
      case y16Q2 => exact fun _ _ _ h => h
      case y16W2 => kernel_rfl
      case y16Y2 => (intro W hSw; obtain ⟨c0, c1, c2⟩ := hSw.t.cells; go_simp; try with_reducible rfl)
      try simp only [Act.put, List.setIfInBounds_toArray, List.set_cons_zero, List.set_cons_succ]
      refine wpAnyH_ready (rs := [3]) (by kernel_rfl) (by simp) ?_
      refine AllReadyH.cons (o := ?y16O3) ?y16I3 (fun K hK => ?y16R3) AllReadyH.nil
      case y16I3 => (simp only [List.getElem?_toArray, List.getElem?_cons_succ, List.getElem?_cons_zero]; exact rfl)
      rw [if_pos (by kernel_rfl)]
      go_simp
      refine (HC1.out _ (by repeat (first | exact Below.refl _ _ | (with_reducible apply below_drewN) | (with_reducible apply Below.drew)))).mono ?_
      rintro e v1 ⟨n5, A5, l5, k5, x5, rfl, hR, hW⟩
      have hb : Below v0.heap.size v0 v1 := Below.trans (by repeat (first | exact Below.refl _ _ | (with_reducible apply below_drewN) | (with_reducible apply Below.drew))) hW
      have E1 := Lib.hid (H5.out.below hb)
      have R1 := Lib.hid hR
      clear hR hW hb HC1
      have HC2 := Lib.hid (fun (W : World) (hW : Below v1.heap.size v1 W) => cmp_c 2148 w.heap.size 5000 X ((-numV 9218868437227405311) * ((2 ^ 1074 : Nat) : Int)) n1 n5 A1 A5 l1 l5 k1 k5 x1 x5 W (Nat.le_trans E1.out.bel.size hW.size) (E1.out.x.2.below hW) ((R1.out.below hW).raise 1074) HXB.out (raise_bd (by rw [Int.natAbs_neg]; exact numV_bd (u := 9218868437227405311) (by decide))) (by decide) (by decide))
      rw [HX1.out] at HC2
      go_wp2_with fail
      clear hHeld
      refine hK.out _ _ E1.out (fun hHeld => ?_)
      clear hK K
      try simp only [Act.put, List.setIfInBounds_toArray, List.set_cons_zero, List.set_cons_succ]
      refine wpAnyH_ready (rs := [4]) (by kernel_rfl) (by simp) ?_
      refine AllReadyH.cons (o := ?y16O4) ?y16I4 (fun K hK => ?y16R4) AllReadyH.nil
      case y16I4 => (simp only [List.getElem?_toArray, List.getElem?_cons_succ, List.getElem?_cons_zero]; exact rfl)
      rw [if_pos (by kernel_rfl)]
      go_simp
      refine (HC2.out _ (by repeat (first | exact Below.refl _ _ | (with_reducible apply below_drewN) | (with_reducible apply Below.drew)))).mono ?_
      rintro e v2 ⟨rfl, hW⟩
      have hb : Below v1.heap.size v1 v2 := Below.trans (by repeat (first | exact Below.refl _ _ | (with_reducible apply below_drewN) | (with_reducible apply Below.drew))) hW
      have E2 := Lib.hid (E1.out.below hb)
      clear hW hb HC2
      have HC3 := Lib.hid (fun (W : World) (hW : Below v2.heap.size v2 W) => cmp_c 2148 w.heap.size 5000 X (numV 9218868437227405311 * ((2 ^ 1074 : Nat) : Int)) n1 n2 A1 A2 l1 l2 k1 k2 x1 x2 W (Nat.le_trans E2.out.bel.size hW.size) (E2.out.x.2.below hW) ((E2.out.t.2.below hW).raise 1074) HXB.out (raise_bd (numV_bd (u := 9218868437227405311) (by decide))) (by decide) (by decide))
      rw [HX2.out] at HC3
      go_wp2_with fail
      clear hHeld
      refine hK.out _ _ E2.out (fun hHeld => ?_)
      clear hK K
      try simp only [Act.put, List.setIfInBounds_toArray, List.set_cons_zero, List.set_cons_succ]
      refine wpAnyH_take (i := 5) (oi := ?y16O5) (v := ?y16V5) ?y16I5 (by kernel_rfl) (by kernel_rfl) (by kernel_rfl) ?y16Q5 (Or.inl ⟨?y16W5, ?y16Y5⟩) hHeld ?y16R5
      case y16I5 => (simp only [List.getElem?_toArray, List.getElem?_cons_succ, List.getElem?_cons_zero]; exact rfl)
      case y16Q5 => exact fun _ _ _ h => h
      case y16W5 => kernel_rfl
      case y16Y5 => (intro W hSw; clear hSw; go_simp; try with_reducible rfl)
      try simp only [Act.put, List.setIfInBounds_toArray, List.set_cons_zero, List.set_cons_succ]
      refine wpAnyH_take (i := 6) (oi := ?y16O6) (v := ?y16V6) ?y16I6 (by kernel_rfl) (by kernel_rfl) (by kernel_rfl) ?y16Q6 (Or.inl ⟨?y16W6, ?y16Y6⟩) hHeld ?y16R6
      case y16I6 => (simp only [List.getElem?_toArray, List.getElem?_cons_succ, List.getElem?_cons_zero]; exact rfl)
      case y16Q6 => exact fun _ _ _ h => h
      case y16W6 => kernel_rfl
      case y16Y6 => (intro W hSw; clear hSw; go_simp; try with_reducible rfl)
      try simp only [Act.put, List.setIfInBounds_toArray, List.set_cons_zero, List.set_cons_succ]
      refine wpAnyH_take (i := 7) (oi := ?y16O7) (v := ?y16V7) ?y16I7 (by kernel_rfl) (by kernel_rfl) (by kernel_rfl) ?y16Q7 (Or.inl ⟨?y16W7, ?y16Y7⟩) hHeld ?y16R7
      case y16I7 => (simp only [List.getElem?_toArray, List.getElem?_cons_succ, List.getElem?_cons_zero]; exact rfl)
      case y16Q7 => exact fun _ _ _ h => h
      case y16W7 => kernel_rfl
      case y16Y7 => (intro W hSw; clear hSw; go_simp; try with_reducible rfl)
      try simp only [Act.put, List.setIfInBounds_toArray, List.set_cons_zero, List.set_cons_succ]
      refine wpAnyH_take (i := 8) (oi := ?y16O8) (v := ?y16V8) ?y16I8 (by kernel_rfl) (by kernel_rfl) (by kernel_rfl) ?y16Q8 (Or.inl ⟨?y16W8, ?y16Y8⟩) hHeld ?y16R8
      case y16I8 => (simp only [List.getElem?_toArray, List.getElem?_cons_succ, List.getElem?_cons_zero]; exact rfl)
      case y16Q8 => exact fun _ _ _ h => h
      case y16W8 => kernel_rfl
      case y16Y8 => (intro W hSw; clear hSw; go_simp; try with_reducible rfl)
      try simp only [Act.put, List.setIfInBounds_toArray, List.set_cons_zero, List.set_cons_succ]
      refine wpAnyH_take (i := 9) (oi := ?y16O9) (v := ?y16V9) ?y16I9 (by kernel_rfl) (by kernel_rfl) (by kernel_rfl) ?y16Q9 (Or.inl ⟨?y16W9, ?y16Y9⟩) hHeld ?y16R9
      case y16I9 => (simp only [List.getElem?_toArray, List.getElem?_cons_succ, List.getElem?_cons_zero]; exact rfl)
      case y16Q9 => exact fun _ _ _ h => h
      case y16W9 => kernel_rfl
      case y16Y9 => (intro W hSw; obtain ⟨c0, c1, c2⟩ := hSw.x.cells; go_simp; try with_reducible rfl)
      try simp only [Act.put, List.setIfInBounds_toArray, List.set_cons_zero, List.set_cons_succ]
      refine wpAnyH_take (i := 10) (oi := ?y16O10) (v := ?y16V10) ?y16I10 (by kernel_rfl) (by kernel_rfl) (by kernel_rfl) ?y16Q10 (Or.inl ⟨?y16W10, ?y16Y10⟩) hHeld ?y16R10
      case y16I10 => (simp only [List.getElem?_toArray, List.getElem?_cons_succ, List.getElem?_cons_zero]; exact rfl)
      case y16Q10 => exact fun _ _ _ h => h
      case y16W10 => kernel_rfl
      case y16Y10 => (intro W hSw; obtain ⟨c0, c1, c2⟩ := hSw.t.cells; go_simp; try with_reducible rfl)
      try simp only [Act.put, List.setIfInBounds_toArray, List.set_cons_zero, List.set_cons_succ]
      refine wpAnyH_ready (rs := [11]) (by kernel_rfl) (by simp) ?_
      refine AllReadyH.cons (o := ?y16O11) ?y16I11 (fun K hK => ?y16R11) AllReadyH.nil
      case y16I11 => (simp only [List.getElem?_toArray, List.getElem?_cons_succ, List.getElem?_cons_zero]; exact rfl)
      rw [if_pos (by kernel_rfl)]
      go_simp
      refine (HC3.out _ (by repeat (first | exact Below.refl _ _ | (with_reducible apply below_drewN) | (with_reducible apply Below.drew)))).mono ?_
      rintro e v3 ⟨rfl, hW⟩
      have hb : Below v2.heap.size v2 v3 := Below.trans (by repeat (first | exact Below.refl _ _ | (with_reducible apply below_drewN) | (with_reducible apply Below.drew))) hW
      have E3 := Lib.hid (E2.out.below hb)
      clear hW hb HC3
      go_wp2_with fail
      clear hHeld
      refine hK.out _ _ E3.out (fun hHeld => ?_)
      clear hK K
      try simp only [Act.put, List.setIfInBounds_toArray, List.set_cons_zero, List.set_cons_succ]
      refine wpAnyH_take (i := 12) (oi := ?y16O12) (v := ?y16V12) ?y16I12 (by kernel_rfl) (by kernel_rfl) (by kernel_rfl) ?y16Q12 (Or.inl ⟨?y16W12, ?y16Y12⟩) hHeld ?y16R12
      case y16I12 => (simp only [List.getElem?_toArray, List.getElem?_cons_succ, List.getElem?_cons_zero]; exact rfl)
      case y16Q12 => exact fun _ _ _ h => h
      case y16W12 => kernel_rfl
      case y16Y12 => (intro W hSw; clear hSw; go_simp; try with_reducible rfl)
      try simp only [Act.put, List.setIfInBounds_toArray, List.set_cons_zero, List.set_cons_succ]
      refine wpAnyH_take (i := 13) (oi := ?y16O13) (v := ?y16V13) ?y16I13 (by kernel_rfl) (by kernel_rfl) (by kernel_rfl) ?y16Q13 (Or.inl ⟨?y16W13, ?y16Y13⟩) hHeld ?y16R13
      case y16I13 => (simp only [List.getElem?_toArray, List.getElem?_cons_succ, List.getElem?_cons_zero]; exact rfl)
      case y16Q13 => exact fun _ _ _ h => h
      case y16W13 => kernel_rfl
      case y16Y13 => (intro W hSw; clear hSw; go_simp; try with_reducible rfl)
      try simp only [Act.put, List.setIfInBounds_toArray, List.set_cons_zero, List.set_cons_succ]
      refine wpAnyH_take (i := 14) (oi := ?y16O14) (v := ?y16V14) ?y16I14 (by kernel_rfl) (by kernel_rfl) (by kernel_rfl) ?y16Q14 (Or.inl ⟨?y16W14, ?y16Y14⟩) hHeld ?y16R14
      case y16I14 => (simp only [List.getElem?_toArray, List.getElem?_cons_succ, List.getElem?_cons_zero]; exact rfl)
      case y16Q14 => exact fun _ _ _ h => h
      case y16W14 => kernel_rfl
      case y16Y14 => (intro W hSw; clear hSw; go_simp; try with_reducible rfl)
      try simp only [Act.put, List.setIfInBounds_toArray, List.set_cons_zero, List.set_cons_succ]
      refine wpAnyH_done (by kernel_rfl) ?_ _
      refine NoPanic.normal ?_
      go_wp2_with fail
      go_meet
      exact ⟨rfl, E3⟩
    · refine wp_region_noPanic ?_
      refine wp_region_held_drew (S := (fun wx => Two w wx w.heap.size w1.heap.size w5.heap.size X (numV 9218868437227405311) n1 n2 A1 A2 l1 l2 k1 k2 x1 x2)) (by kernel_rfl) (H5.out.below (by repeat (first | exact Below.refl _ _ | (with_reducible apply below_drewN) | (with_reducible apply Below.drew)))) (fun hHeld => ?_)
      change wpAnyH _ _ _ _ _ 15 _ _ _
      refine wpAnyH_take (i := 0) (oi := ?y17O0) (v := ?y17V0) ?y17I0 (by kernel_rfl) (by kernel_rfl) (by kernel_rfl) ?y17Q0 (Or.inl ⟨?y17W0, ?y17Y0⟩) hHeld ?y17R0
      case y17I0 => (simp only [List.getElem?_toArray, List.getElem?_cons_succ, List.getElem?_cons_zero]; exact rfl)
      case y17Q0 => exact fun _ _ _ h => h
      case y17W0 => kernel_rfl
      case y17Y0 => (intro W hSw; clear hSw; go_simp; try with_reducible rfl)
      try simp only [Act.put, List.setIfInBounds_toArray, List.set_cons_zero, List.set_cons_succ]
      refine wpAnyH_take (i := 1) (oi := ?y17O1) (v := ?y17V1) ?y17I1 (by kernel_rfl) (by kernel_rfl) (by kernel_rfl) ?y17Q1 (Or.inl ⟨?y17W1, ?y17Y1⟩) hHeld ?y17R1
      case y17I1 => (simp only [List.getElem?_toArray, List.getElem?_cons_succ, List.getElem?_cons_zero]; exact rfl)
      case y17Q1 => exact fun _ _ _ h => h
      case y17W1 => kernel_rfl
      case y17Y1 => (intro W hSw; obtain ⟨c0, c1, c2⟩ := hSw.x.cells; go_simp; try with_reducible rfl)
      try simp only [Act.put, List.setIfInBounds_toArray, List.set_cons_zero, List.set_cons_succ]
      refine wpAnyH_take (i := 2) (oi := ?y17O2) (v := ?y17V2) ?y17I2 (by kernel_rfl) (by kernel_rfl) (by kernel_rfl) ?y17Q2 (Or.inl ⟨?y17W2, ?y17Y2⟩) hHeld ?y17R2
      case y17I2 => (simp only [List.getElem?_toArray, List.getElem?_cons_succ, List.getElem?_cons_zero]; exact rfl)
      case y17Q2 => exact fun _ _ _ h => h
      case y17W2 => kernel_rfl
      case y17Y2 => (intro W hSw; obtain ⟨c0, c1, c2⟩ := hSw.t.cells; go_simp; try with_reducible rfl)
      try simp only [Act.put, List.setIfInBounds_toArray, List.set_cons_zero, List.set_cons_succ]
      refine wpAnyH_ready (rs := [3]) (by kernel_rfl) (by simp) ?_
      refine AllReadyH.cons (o := ?y17O3) ?y17I3 (fun K hK => ?y17R3) AllReadyH.nil
      case y17I3 => (simp only [List.getElem?_toArray, List.getElem?_cons_succ, List.getElem?_cons_zero]; exact rfl)
      rw [if_pos (by kernel_rfl)]
      go_simp
      refine (HC1.out _ (by repeat (first | exact Below.refl _ _ | (with_reducible apply below_drewN) | (with_reducible apply Below.drew)))).mono ?_
      rintro e v1 ⟨n5, A5, l5, k5, x5, rfl, hR, hW⟩
      have hb : Below v0.heap.size v0 v1 := Below.trans (by repeat (first | exact Below.refl _ _ | (with_reducible apply below_drewN) | (with_reducible apply Below.drew))) hW
      have E1 := Lib.hid (H5.out.below hb)
      have R1 := Lib.hid hR
      clear hR hW hb HC1
      have HC2 := Lib.hid (fun (W : World) (hW : Below v1.heap.size v1 W) => cmp_c 2148 w.heap.size 5000 X ((-numV 9218868437227405311) * ((2 ^ 1074 : Nat) : Int)) n1 n5 A1 A5 l1 l5 k1 k5 x1 x5 W (Nat.le_trans E1.out.bel.size hW.size) (E1.out.x.2.below hW) ((R1.out.below hW).raise 1074) HXB.out (raise_bd (by rw [Int.natAbs_neg]; exact numV_bd (u := 9218868437227405311) (by decide))) (by decide) (by decide))
      rw [HX1.out] at HC2
      go_wp2_with fail
      clear hHeld
      refine hK.out _ _ E1.out (fun hHeld => ?_)
      clear hK K
      try simp only [Act.put, List.setIfInBounds_toArray, List.set_cons_zero, List.set_cons_succ]
      refine wpAnyH_ready (rs := [4]) (by kernel_rfl) (by simp) ?_
      refine AllReadyH.cons (o := ?y17O4) ?y17I4 (fun K hK => ?y17R4) AllReadyH.nil
      case y17I4 => (simp only [List.getElem?_toArray, List.getElem?_cons_succ, List.getElem?_cons_zero]; exact rfl)
      rw [if_pos (by kernel_rfl)]
      go_simp
      refine (HC2.out _ (by repeat (first | exact Below.refl _ _ | (with_reducible apply below_drewN) | (with_reducible apply Below.drew)))).mono ?_
      rintro e v2 ⟨rfl, hW⟩
      have hb : Below v1.heap.size v1 v2 := Below.trans (by repeat (first | exact Below.refl _ _ | (with_reducible apply below_drewN) | (with_reducible apply Below.drew))) hW
      have E2 := Lib.hid (E1.out.below hb)
      clear hW hb HC2
      have HC3 := Lib.hid (fun (W : World) (hW : Below v2.heap.size v2 W) => cmp_c 2148 w.heap.size 5000 X (numV 9218868437227405311 * ((2 ^ 1074 : Nat) : Int)) n1 n2 A1 A2 l1 l2 k1 k2 x1 x2 W (Nat.le_trans E2.out.bel.size hW.size) (E2.out.x.2.below hW) ((E2.out.t.2.below hW).raise 1074) HXB.out (raise_bd (numV_bd (u := 9218868437227405311) (by decide))) (by decide) (by decide))
      rw [HX2.out] at HC3
      go_wp2_with fail
      clear hHeld
      refine hK.out _ _ E2.out (fun hHeld => ?_)
      clear hK K
      try simp only [Act.put, List.setIfInBounds_toArray, List.set_cons_zero, List.set_cons_succ]
      refine wpAnyH_take (i := 5) (oi := ?y17O5) (v := ?y17V5) ?y17I5 (by kernel_rfl) (by kernel_rfl) (by kernel_rfl) ?y17Q5 (Or.inl ⟨?y17W5, ?y17Y5⟩) hHeld ?y17R5
      case y17I5 => (simp only [List.getElem?_toArray, List.getElem?_cons_succ, List.getElem?_cons_zero]; exact rfl)
      case y17Q5 => exact fun _ _ _ h => h
      case y17W5 => kernel_rfl
      case y17Y5 => (intro W hSw; clear hSw; go_simp; try with_reducible rfl)
      try simp only [Act.put, List.setIfInBounds_toArray, List.set_cons_zero, List.set_cons_succ]
      refine wpAnyH_take (i := 6) (oi := ?y17O6) (v := ?y17V6) ?y17I6 (by kernel_rfl) (by kernel_rfl) (by kernel_rfl) ?y17Q6 (Or.inl ⟨?y17W6, ?y17Y6⟩) hHeld ?y17R6
      case y17I6 => (simp only [List.getElem?_toArray, List.getElem?_cons_succ, List.getElem?_cons_zero]; exact rfl)
      case y17Q6 => exact fun _ _ _ h => h
      case y17W6 => kernel_rfl
      case y17Y6 => (intro W hSw; clear hSw; go_simp; try with_reducible rfl)
      try simp only [Act.put, List.setIfInBounds_toArray, List.set_cons_zero, List.set_cons_succ]
      refine wpAnyH_take (i := 7) (oi := ?y17O7) (v := ?y17V7) ?y17I7 (by kernel_rfl) (by kernel_rfl) (by kernel_rfl) ?y17Q7 (Or.inl ⟨?y17W7, ?y17Y7⟩) hHeld ?y17R7
      case y17I7 => (simp only [List.getElem?_toArray, List.getElem?_cons_succ, List.getElem?_cons_zero]; exact rfl)
      case y17Q7 => exact fun _ _ _ h => h
      case y17W7 => kernel_rfl
      case y17Y7 => (intro W hSw; clear hSw; go_simp; try with_reducible rfl)
      try simp only [Act.put, List.setIfInBounds_toArray, List.set_cons_zero, List.set_cons_succ]
      refine wpAnyH_take (i := 8) (oi := ?y17O8) (v := ?y17V8) ?y17I8 (by kernel_rfl) (by kernel_rfl) (by kernel_rfl) ?y17Q8 (Or.inl ⟨?y17W8, ?y17Y8⟩) hHeld ?y17R8
      case y17I8 => (simp only [List.getElem?_toArray, List.getElem?_cons_succ, List.getElem?_cons_zero]; exact rfl)
      case y17Q8 => exact fun _ _ _ h => h
      case y17W8 => kernel_rfl
      case y17Y8 => (intro W hSw; clear hSw; go_simp; try with_reducible rfl)
      try simp only [Act.put, List.setIfInBounds_toArray, List.set_cons_zero, List.set_cons_succ]
      refine wpAnyH_take (i := 9) (oi := ?y17O9) (v := ?y17V9) ?y17I9 (by kernel_rfl) (by kernel_rfl) (by kernel_rfl) ?y17Q9 (Or.inl ⟨?y17W9, ?y17Y9⟩) hHeld ?y17R9
      case y17I9 => (simp only [List.getElem?_toArray, List.getElem?_cons_succ, List.getElem?_cons_zero]; exact rfl)
      case y17Q9 => exact fun _ _ _ h => h
      case y17W9 => kernel_rfl
      case y17Y9 => (intro W hSw; obtain ⟨c0, c1, c2⟩ := hSw.x.cells; go_simp; try with_reducible rfl)
      try simp only [Act.put, List.setIfInBounds_toArray, List.set_cons_zero, List.set_cons_succ]
      refine wpAnyH_take (i := 10) (oi := ?y17O10) (v := ?y17V10) ?y17I10 (by kernel_rfl) (by kernel_rfl) (by kernel_rfl) ?y17Q10 (Or.inl ⟨?y17W10, ?y17Y10⟩) hHeld ?y17R10
      case y17I10 => (simp only [List.getElem?_toArray, List.getElem?_cons_succ, List.getElem?_cons_zero]; exact rfl)
      case y17Q10 => exact fun _ _ _ h => h
      case y17W10 => kernel_rfl
      case y17Y10 => (intro W hSw; obtain ⟨c0, c1, c2⟩ := hSw.t.cells; go_simp; try with_reducible rfl)
      try simp only [Act.put, List.setIfInBounds_toArray, List.set_cons_zero, List.set_cons_succ]
      refine wpAnyH_ready (rs := [11]) (by kernel_rfl) (by simp) ?_
      refine AllReadyH.cons (o := ?y17O11) ?y17I11 (fun K hK => ?y17R11) AllReadyH.nil
      case y17I11 => (simp only [List.getElem?_toArray, List.getElem?_cons_succ, List.getElem?_cons_zero]; exact rfl)
      rw [if_pos (by kernel_rfl)]
      go_simp
      refine (HC3.out _ (by repeat (first | exact Below.refl _ _ | (with_reducible apply below_drewN) | (with_reducible apply Below.drew)))).mono ?_
      rintro e v3 ⟨rfl, hW⟩
      have hb : Below v2.heap.size v2 v3 := Below.trans (by repeat (first | exact Below.refl _ _ | (with_reducible apply below_drewN) | (with_reducible apply Below.drew))) hW
      have E3 := Lib.hid (E2.out.below hb)
      clear hW hb HC3
      go_wp2_with fail
      clear hHeld
      refine hK.out _ _ E3.out (fun hHeld => ?_)
      clear hK K
      try simp only [Act.put, List.setIfInBounds_toArray, List.set_cons_zero, List.set_cons_succ]
      refine wpAnyH_take (i := 12) (oi := ?y17O12) (v := ?y17V12) ?y17I12 (by kernel_rfl) (by kernel_rfl) (by kernel_rfl) ?y17Q12 (Or.inl ⟨?y17W12, ?y17Y12⟩) hHeld ?y17R12
      case y17I12 => (simp only [List.getElem?_toArray, List.getElem?_cons_succ, List.getElem?_cons_zero]; exact rfl)
      case y17Q12 => exact fun _ _ _ h => h
      case y17W12 => kernel_rfl
      case y17Y12 => (intro W hSw; clear hSw; go_simp; try with_reducible rfl)
      try simp only [Act.put, List.setIfInBounds_toArray, List.set_cons_zero, List.set_cons_succ]
      refine wpAnyH_take (i := 13) (oi := ?y17O13) (v := ?y17V13) ?y17I13 (by kernel_rfl) (by kernel_rfl) (by kernel_rfl) ?y17Q13 (Or.inl ⟨?y17W13, ?y17Y13⟩) hHeld ?y17R13
      case y17I13 => (simp only [List.getElem?_toArray, List.getElem?_cons_succ, List.getElem?_cons_zero]; exact rfl)
      case y17Q13 => exact fun _ _ _ h => h
      case y17W13 => kernel_rfl
      case y17Y13 => (intro W hSw; clear hSw; go_simp; try with_reducible rfl)
      try simp only [Act.put, List.setIfInBounds_toArray, List.set_cons_zero, List.set_cons_succ]
      refine wpAnyH_take (i := 14) (oi := ?y17O14) (v := ?y17V14) ?y17I14 (by kernel_rfl) (by kernel_rfl) (by kernel_rfl) ?y17Q14 (Or.inl ⟨?y17W14, ?y17Y14⟩) hHeld ?y17R14
      case y17I14 => (simp only [List.getElem?_toArray, List.getElem?_cons_succ, List.getElem?_cons_zero]; exact rfl)
      case y17Q14 => exact fun _ _ _ h => h
      case y17W14 => kernel_rfl
      case y17Y14 => (intro W hSw; clear hSw; go_simp; try with_reducible rfl)
      try simp only [Act.put, List.setIfInBounds_toArray, List.set_cons_zero, List.set_cons_succ]
      refine wpAnyH_done (by kernel_rfl) ?_ _
      refine NoPanic.normal ?_
      go_wp2_with fail
      go_meet
      exact ⟨rfl, E3⟩
  case rest =>
    obtain ⟨rfl, hG1⟩ := hcut
    obtain ⟨u1, rfl⟩ : ∃ wo : World, wo = wc := ⟨_, rfl⟩
    have G1 := Lib.hid hG1.out
    clear hG1
    clear hl hh HCS
    go_wp2_with fail
    refine (lnum_calls zl w.heap.size _ HZB.out.1 G1.out.bel.size).mono ?_
    rintro e w6 ⟨n3, A3, l3, k3, x3, rfl, hR, hW⟩
    have hB := below_new (Below.refl w6.heap.size w6) (.cells #[.bool n3, .slice A3 l3 k3, .int .i64 x3] 25)
    have hb1 := below_next hW hB
    have H6 := Lib.hid (And.intro (G1.out.x.below hb1) (And.intro (NK.new hR) (below_next G1.out.bel hb1)))
    clear hR hW hB hb1 G1
    go_wp2_with fail
    refine (lnum_calls zh w.heap.size _ HZB.out.2 H6.out.2.2.size).mono ?_
    rintro e w7 ⟨n4, A4, l4, k4, x4, rfl, hR, hW⟩
    have hB := below_new (Below.refl w7.heap.size w7) (.cells #[.bool n4, .slice A4 l4 k4, .int .i64 x4] 25)
    have hb1 := below_next hW hB
    have H7 : Hid (Vpq w (w7.alloc (.cells #[.bool n4, .slice A4 l4 k4, .int .i64 x4] 25)) w.heap.size w1.heap.size w6.heap.size w7.heap.size X (numV zl) (numV zh) n1 n3 n4 A1 A3 A4 l1 l3 l4 k1 k3 k4 x1 x3 x4) := ⟨H6.out.1.below hb1, H6.out.2.1.below hb1, NK.new hR, below_next H6.out.2.2 hb1⟩
    clear hR hW hB hb1 H6
    obtain ⟨a0, a1, a2⟩ := H7.out.x.cells; obtain ⟨p0, p1, p2⟩ := H7.out.p.cells; obtain ⟨q0, q1, q2⟩ := H7.out.q.cells
    have HC1 := Lib.hid (fun (W : World) (hW : Below (w7.alloc (.cells #[.bool n4, .slice A4 l4 k4, .int .i64 x4] 25)).heap.size (w7.alloc (.cells #[.bool n4, .slice A4 l4 k4, .int .i64 x4] 25)) W) => cmp_c 2148 w.heap.size 5000 (numV zl * ((2 ^ 1074 : Nat) : Int)) X n3 n1 A3 A1 l3 l1 k3 k1 x3 x1 W (Nat.le_trans H7.out.bel.size hW.size) ((H7.out.p.2.below hW).raise 1074) (H7.out.x.2.below hW) (raise_bd (numV_bd HZB.out.1)) HXB.out (by decide) (by decide))
    rw [HX3.out] at HC1
    go_wp2_with fail
    refine (HC1.out _ (Below.refl _ _)).mono ?_
    rintro e w8 ⟨rfl, hW⟩
    have H8 := Lib.hid (H7.out.below hW)
    clear hW H7 HC1 a0 a1 a2 p0 p1 p2
    obtain ⟨a0, a1, a2⟩ := H8.out.x.cells; obtain ⟨p0, p1, p2⟩ := H8.out.p.cells; obtain ⟨q0, q1, q2⟩ := H8.out.q.cells
    have HC1 := Lib.hid (fun (W : World) (hW : Below w8.heap.size w8 W) => cmp_c 2148 w.heap.size 5000 X (numV zh * ((2 ^ 1074 : Nat) : Int)) n1 n4 A1 A4 l1 l4 k1 k4 x1 x4 W (Nat.le_trans H8.out.bel.size hW.size) (H8.out.x.2.below hW) ((H8.out.q.2.below hW).raise 1074) HXB.out (raise_bd (numV_bd HZB.out.2)) (by decide) (by decide))
    rw [HX5.out] at HC1
    go_wp2_with fail
    refine (HC1.out _ (Below.refl _ _)).mono ?_
    rintro e w9 ⟨rfl, hW⟩
    have H9 := Lib.hid (H8.out.below hW)
    clear hW H8 HC1 a0 a1 a2 q0 q1 q2
    have HNX := Lib.hid (fun W => rnext_calls 1 zl HZB.out.1 W)
    rw [hn] at HNX
    have HM := Lib.hid hm
    have HEND := Lib.hid hend
    have he2 := bne_t' he
    have hqq2 := bne_f' hqq
    have g3' : (d1 == 0) = false := by simpa using g3
    have g4' : (d2 == 0) = false := by simpa using g4
    clear hn hm hend
    rcases HM.out with h | ⟨h, h'⟩
    · have hm2 := bne_f' h
      go_wp2_with fail
      refine (HNX.out _).mono ?_
      rintro e w' ⟨rfl, rfl⟩
      unfold fRet2
      simp only [Option.getD_some, Option.isSome_some]
      obtain ⟨a0, a1, a2⟩ := H9.out.x.cells; obtain ⟨p0, p1, p2⟩ := H9.out.p.cells; obtain ⟨q0, q1, q2⟩ := H9.out.q.cells
      have HC1 := Lib.hid (fun (W : World) (hW : Below w9.heap.size w9 W) => cmp_c 2148 w.heap.size 5000 (numV zl * ((2 ^ 1074 : Nat) : Int)) X n3 n1 A3 A1 l3 l1 k3 k1 x3 x1 W (Nat.le_trans H9.out.bel.size hW.size) ((H9.out.p.2.below hW).raise 1074) (H9.out.x.2.below hW) (raise_bd (numV_bd HZB.out.1)) HXB.out (by decide) (by decide))
      rw [HX3.out] at HC1
      go_wp2_with fail
      refine (HC1.out _ (Below.refl _ _)).mono ?_
      rintro e w10 ⟨rfl, hW⟩
      have H10 := Lib.hid (H9.out.below hW)
      clear hW H9 HC1 a0 a1 a2 p0 p1 p2 q0 q1 q2
      obtain ⟨a0, a1, a2⟩ := H10.out.x.cells; obtain ⟨p0, p1, p2⟩ := H10.out.p.cells; obtain ⟨q0, q1, q2⟩ := H10.out.q.cells
      have HC1 := Lib.hid (fun (W : World) (hW : Below w10.heap.size w10 W) => cmp_c 2148 w.heap.size 5000 X (numV zh * ((2 ^ 1074 : Nat) : Int)) n1 n4 A1 A4 l1 l4 k1 k4 x1 x4 W (Nat.le_trans H10.out.bel.size hW.size) (H10.out.x.2.below hW) ((H10.out.q.2.below hW).raise 1074) HXB.out (raise_bd (numV_bd HZB.out.2)) (by decide) (by decide))
      rw [HX5.out] at HC1
      go_wp2_with fail
      refine (HC1.out _ (Below.refl _ _)).mono ?_
      rintro e w11 ⟨rfl, hW⟩
      have H11 := Lib.hid (H10.out.below hW)
      clear hW H10 HC1 a0 a1 a2 p0 p1 p2 q0 q1 q2
      go_upto_region 22 with fail
      go_cut [25] (fun s wx => s = .int .i64 lf ∧ Hid (Vpq w wx w.heap.size w1.heap.size w6.heap.size w7.heap.size X (numV zl) (numV zh) n1 n3 n4 A1 A3 A4 l1 l3 l4 k1 k3 k4 x1 x3 x4))
      case first =>
        have HC1 := Lib.hid (fun (W : World) (hW : Below w11.heap.size w11 W) => minus_c 2148 w.heap.size 5000 X (numV zl * ((2 ^ 1074 : Nat) : Int)) n1 n3 A1 A3 l1 l3 k1 k3 x1 x3 W (Nat.le_trans H11.out.bel.size hW.size) (H11.out.x.2.below hW) ((H11.out.p.2.below hW).raise 1074) HXB.out (raise_bd (numV_bd HZB.out.1)) (by decide) (by decide))
        refine wp_region_noPanic ?_
        refine wp_region_held_drew (S := (fun wx => Vpq w wx w.heap.size w1.heap.size w6.heap.size w7.heap.size X (numV zl) (numV zh) n1 n3 n4 A1 A3 A4 l1 l3 l4 k1 k3 k4 x1 x3 x4)) (by kernel_rfl) (H11.out.below (by repeat (first | exact Below.refl _ _ | (with_reducible apply below_drewN) | (with_reducible apply Below.drew)))) (fun hHeld => ?_)
        change wpAnyH _ _ _ _ _ 8 _ _ _
        refine wpAnyH_take (i := 0) (oi := ?y12O0) (v := ?y12V0) ?y12I0 (by kernel_rfl) (by kernel_rfl) (by kernel_rfl) ?y12Q0 (Or.inl ⟨?y12W0, ?y12Y0⟩) hHeld ?y12R0
        case y12I0 => (simp only [List.getElem?_toArray, List.getElem?_cons_succ, List.getElem?_cons_zero]; exact rfl)
        case y12Q0 => exact fun _ _ _ h => h
        case y12W0 => kernel_rfl
        case y12Y0 => (intro W hSw; obtain ⟨c0, c1, c2⟩ := hSw.x.cells; go_simp; try with_reducible rfl)
        try simp only [Act.put, List.setIfInBounds_toArray, List.set_cons_zero, List.set_cons_succ]
        refine wpAnyH_take (i := 1) (oi := ?y12O1) (v := ?y12V1) ?y12I1 (by kernel_rfl) (by kernel_rfl) (by kernel_rfl) ?y12Q1 (Or.inl ⟨?y12W1, ?y12Y1⟩) hHeld ?y12R1
        case y12I1 => (simp only [List.getElem?_toArray, List.getElem?_cons_succ, List.getElem?_cons_zero]; exact rfl)
        case y12Q1 => exact fun _ _ _ h => h
        case y12W1 => kernel_rfl
        case y12Y1 => (intro W hSw; obtain ⟨c0, c1, c2⟩ := hSw.p.cells; go_simp; try with_reducible rfl)
        try simp only [Act.put, List.setIfInBounds_toArray, List.set_cons_zero, List.set_cons_succ]
        refine wpAnyH_take (i := 3) (oi := ?y12O3) (v := ?y12V3) ?y12I3 (by kernel_rfl) (by kernel_rfl) (by kernel_rfl) ?y12Q3 (Or.inl ⟨?y12W3, ?y12Y3⟩) hHeld ?y12R3
        case y12I3 => (simp only [List.getElem?_toArray, List.getElem?_cons_succ, List.getElem?_cons_zero]; exact rfl)
        case y12Q3 => exact fun _ _ _ h => h
        case y12W3 => kernel_rfl
        case y12Y3 => (intro W hSw; obtain ⟨c0, c1, c2⟩ := hSw.q.cells; go_simp; try with_reducible rfl)
        try simp only [Act.put, List.setIfInBounds_toArray, List.set_cons_zero, List.set_cons_succ]
        refine wpAnyH_take (i := 4) (oi := ?y12O4) (v := ?y12V4) ?y12I4 (by kernel_rfl) (by kernel_rfl) (by kernel_rfl) ?y12Q4 (Or.inl ⟨?y12W4, ?y12Y4⟩) hHeld ?y12R4
        case y12I4 => (simp only [List.getElem?_toArray, List.getElem?_cons_succ, List.getElem?_cons_zero]; exact rfl)
        case y12Q4 => exact fun _ _ _ h => h
        case y12W4 => kernel_rfl
        case y12Y4 => (intro W hSw; obtain ⟨c0, c1, c2⟩ := hSw.x.cells; go_simp; try with_reducible rfl)
        try simp only [Act.put, List.setIfInBounds_toArray, List.set_cons_zero, List.set_cons_succ]
        refine wpAnyH_ready (rs := [2]) (by kernel_rfl) (by simp) ?_
        refine AllReadyH.cons (o := ?y12O2) ?y12I2 (fun K hK => ?y12R2) AllReadyH.nil
        case y12I2 => (simp only [List.getElem?_toArray, List.getElem?_cons_succ, List.getElem?_cons_zero]; exact rfl)
        rw [if_pos (by kernel_rfl)]
        go_simp
        refine (HC1.out _ (by repeat (first | exact Below.refl _ _ | (with_reducible apply below_drewN) | (with_reducible apply Below.drew)))).mono ?_
        rintro e v1 ⟨n5, A5, l5, k5, x5, rfl, hR, hW⟩
        have hb : Below w11.heap.size w11 v1 := Below.trans (by repeat (first | exact Below.refl _ _ | (with_reducible apply below_drewN) | (with_reducible apply Below.drew))) hW
        have E1 := Lib.hid (H11.out.below hb)
        have R1 := Lib.hid hR
        clear hR hW hb HC1
        have HC2 := Lib.hid (fun (W : World) (hW : Below v1.heap.size v1 W) => minus_c 2148 w.heap.size 5000 (numV zh * ((2 ^ 1074 : Nat) : Int)) X n4 n1 A4 A1 l4 l1 k4 k1 x4 x1 W (Nat.le_trans E1.out.bel.size hW.size) ((E1.out.q.2.below hW).raise 1074) (E1.out.x.2.below hW) (raise_bd (numV_bd HZB.out.2)) HXB.out (by decide) (by decide))
        go_wp2_with fail
        clear hHeld
        refine hK.out _ _ E1.out (fun hHeld => ?_)
        clear hK K
        try simp only [Act.put, List.setIfInBounds_toArray, List.set_cons_zero, List.set_cons_succ]
        refine wpAnyH_ready (rs := [5]) (by kernel_rfl) (by simp) ?_
        refine AllReadyH.cons (o := ?y12O5) ?y12I5 (fun K hK => ?y12R5) AllReadyH.nil
        case y12I5 => (simp only [List.getElem?_toArray, List.getElem?_cons_succ, List.getElem?_cons_zero]; exact rfl)
        rw [if_pos (by kernel_rfl)]
        go_simp
        refine (HC2.out _ (by repeat (first | exact Below.refl _ _ | (with_reducible apply below_drewN) | (with_reducible apply Below.drew)))).mono ?_
        rintro e v2 ⟨n6, A6, l6, k6, x6, rfl, hR, hW⟩
        have hb : Below v1.heap.size v1 v2 := Below.trans (by repeat (first | exact Below.refl _ _ | (with_reducible apply below_drewN) | (with_reducible apply Below.drew))) hW
        have E2 := Lib.hid (E1.out.below hb)
        have R2 := Lib.hid hR
        have R1 := Lib.hid (R1.out.below hb)
        clear hR hW hb HC2
        have HC3 := Lib.hid (fun (W : World) (hW : Below v2.heap.size v2 W) => cmp_c 2148 w.heap.size 6000 (X - numV zl * ((2 ^ 1074 : Nat) : Int)) (numV zh * ((2 ^ 1074 : Nat) : Int) - X) n5 n6 A5 A6 l5 l6 k5 k6 x5 x6 W (Nat.le_trans E2.out.bel.size hW.size) (R1.out.below hW) (R2.out.below hW) (diff_bd HXB.out (raise_bd (numV_bd HZB.out.1))) (diff_bd (raise_bd (numV_bd HZB.out.2)) HXB.out) (by decide) (by decide))
        rw [HX6.out] at HC3
        go_wp2_with fail
        clear hHeld
        refine hK.out _ _ E2.out (fun hHeld => ?_)
        clear hK K
        try simp only [Act.put, List.setIfInBounds_toArray, List.set_cons_zero, List.set_cons_succ]
        refine wpAnyH_ready (rs := [6]) (by kernel_rfl) (by simp) ?_
        refine AllReadyH.cons (o := ?y12O6) ?y12I6 (fun K hK => ?y12R6) AllReadyH.nil
        case y12I6 => (simp only [List.getElem?_toArray, List.getElem?_cons_succ, List.getElem?_cons_zero]; exact rfl)
        rw [if_pos (by kernel_rfl)]
        go_simp
        refine (HC3.out _ (by repeat (first | exact Below.refl _ _ | (with_reducible apply below_drewN) | (with_reducible apply Below.drew)))).mono ?_
        rintro e v3 ⟨rfl, hW⟩
        have hb : Below v2.heap.size v2 v3 := Below.trans (by repeat (first | exact Below.refl _ _ | (with_reducible apply below_drewN) | (with_reducible apply Below.drew))) hW
        have E3 := Lib.hid (E2.out.below hb)
        clear hW hb HC3
        go_wp2_with fail
        clear hHeld
        refine hK.out _ _ E3.out (fun hHeld => ?_)
        clear hK K
        try simp only [Act.put, List.setIfInBounds_toArray, List.set_cons_zero, List.set_cons_succ]
        refine wpAnyH_take (i := 7) (oi := ?y12O7) (v := ?y12V7) ?y12I7 (by kernel_rfl) (by kernel_rfl) (by kernel_rfl) ?y12Q7 (Or.inl ⟨?y12W7, ?y12Y7⟩) hHeld ?y12R7
        case y12I7 => (simp only [List.getElem?_toArray, List.getElem?_cons_succ, List.getElem?_cons_zero]; exact rfl)
        case y12Q7 => exact fun _ _ _ h => h
        case y12W7 => kernel_rfl
        case y12Y7 => (intro W hSw; clear hSw; go_simp; try with_reducible rfl)
        try simp only [Act.put, List.setIfInBounds_toArray, List.set_cons_zero, List.set_cons_succ]
        refine wpAnyH_done (by kernel_rfl) ?_ _
        refine NoPanic.normal ?_
        go_wp2_with fail
        go_meet
        exact ⟨rfl, E3⟩
      case rest =>
        obtain ⟨rfl, hG2⟩ := hcut
        obtain ⟨u2, rfl⟩ : ∃ wo : World, wo = wc := ⟨_, rfl⟩
        have G2 := Lib.hid hG2.out
        clear hG2
        go_wp2_with fail
        refine (HBM.out _).mono ?_
        rintro e w' ⟨rfl, rfl⟩
        rcases HEND.out with ⟨rfl, h1⟩ | ⟨rfl, h1⟩ | ⟨rfl, h1⟩
        · go_wp2_with fail
          refine (started_calls _).mono ?_
          rintro e wz ⟨rfl, hW⟩
          have HZ := Lib.hid (below_next G2.out.bel hW)
          clear hW
          go_wp2
          go_ret
          exact ⟨rfl, HZ.out⟩
        · go_wp2_with fail
          refine (started_calls _).mono ?_
          rintro e wz ⟨rfl, hW⟩
          have HZ := Lib.hid (below_next G2.out.bel hW)
          clear hW
          go_wp2
          go_ret
          exact ⟨rfl, HZ.out⟩
        · have h2 : (zm : Int) % 2 = 0 := by omega
          go_wp2_with fail
          refine (started_calls _).mono ?_
          rintro e wz ⟨rfl, hW⟩
          have HZ := Lib.hid (below_next G2.out.bel hW)
          clear hW
          go_wp2
          go_ret
          exact ⟨rfl, HZ.out⟩
    · have hm2 := bne_t' h
      have hm3 := bne_f' h'
      go_wp2_with fail
      refine (HNX.out _).mono ?_
      rintro e w' ⟨rfl, rfl⟩
      unfold fRet2
      simp only [Option.getD_some, Option.isSome_some]
      obtain ⟨a0, a1, a2⟩ := H9.out.x.cells; obtain ⟨p0, p1, p2⟩ := H9.out.p.cells; obtain ⟨q0, q1, q2⟩ := H9.out.q.cells
      have HC1 := Lib.hid (fun (W : World) (hW : Below w9.heap.size w9 W) => cmp_c 2148 w.heap.size 5000 (numV zl * ((2 ^ 1074 : Nat) : Int)) X n3 n1 A3 A1 l3 l1 k3 k1 x3 x1 W (Nat.le_trans H9.out.bel.size hW.size) ((H9.out.p.2.below hW).raise 1074) (H9.out.x.2.below hW) (raise_bd (numV_bd HZB.out.1)) HXB.out (by decide) (by decide))
      rw [HX3.out] at HC1
      go_wp2_with fail
      refine (HC1.out _ (Below.refl _ _)).mono ?_
      rintro e w10 ⟨rfl, hW⟩
      have H10 := Lib.hid (H9.out.below hW)
      clear hW H9 HC1 a0 a1 a2 p0 p1 p2 q0 q1 q2
      obtain ⟨a0, a1, a2⟩ := H10.out.x.cells; obtain ⟨p0, p1, p2⟩ := H10.out.p.cells; obtain ⟨q0, q1, q2⟩ := H10.out.q.cells
      have HC1 := Lib.hid (fun (W : World) (hW : Below w10.heap.size w10 W) => cmp_c 2148 w.heap.size 5000 X (numV zh * ((2 ^ 1074 : Nat) : Int)) n1 n4 A1 A4 l1 l4 k1 k4 x1 x4 W (Nat.le_trans H10.out.bel.size hW.size) (H10.out.x.2.below hW) ((H10.out.q.2.below hW).raise 1074) HXB.out (raise_bd (numV_bd HZB.out.2)) (by decide) (by decide))
      rw [HX5.out] at HC1
      go_wp2_with fail
      refine (HC1.out _ (Below.refl _ _)).mono ?_
      rintro e w11 ⟨rfl, hW⟩
      have H11 := Lib.hid (H10.out.below hW)
      clear hW H10 HC1 a0 a1 a2 p0 p1 p2 q0 q1 q2
      go_upto_region 22 with fail
      go_cut [25] (fun s wx => s = .int .i64 lf ∧ Hid (Vpq w wx w.heap.size w1.heap.size w6.heap.size w7.heap.size X (numV zl) (numV zh) n1 n3 n4 A1 A3 A4 l1 l3 l4 k1 k3 k4 x1 x3 x4))
      case first =>
        have HC1 := Lib.hid (fun (W : World) (hW : Below w11.heap.size w11 W) => minus_c 2148 w.heap.size 5000 X (numV zl * ((2 ^ 1074 : Nat) : Int)) n1 n3 A1 A3 l1 l3 k1 k3 x1 x3 W (Nat.le_trans H11.out.bel.size hW.size) (H11.out.x.2.below hW) ((H11.out.p.2.below hW).raise 1074) HXB.out (raise_bd (numV_bd HZB.out.1)) (by decide) (by decide))
        refine wp_region_noPanic ?_
        refine wp_region_held_drew (S := (fun wx => Vpq w wx w.heap.size w1.heap.size w6.heap.size w7.heap.size X (numV zl) (numV zh) n1 n3 n4 A1 A3 A4 l1 l3 l4 k1 k3 k4 x1 x3 x4)) (by kernel_rfl) (H11.out.below (by repeat (first | exact Below.refl _ _ | (with_reducible apply below_drewN) | (with_reducible apply Below.drew)))) (fun hHeld => ?_)
        change wpAnyH _ _ _ _ _ 8 _ _ _
        refine wpAnyH_take (i := 0) (oi := ?y13O0) (v := ?y13V0) ?y13I0 (by kernel_rfl) (by kernel_rfl) (by kernel_rfl) ?y13Q0 (Or.inl ⟨?y13W0, ?y13Y0⟩) hHeld ?y13R0
        case y13I0 => (simp only [List.getElem?_toArray, List.getElem?_cons_succ, List.getElem?_cons_zero]; exact rfl)
        case y13Q0 => exact fun _ _ _ h => h
        case y13W0 => kernel_rfl
        case y13Y0 => (intro W hSw; obtain ⟨c0, c1, c2⟩ := hSw.x.cells; go_simp; try with_reducible rfl)
        try simp only [Act.put, List.setIfInBounds_toArray, List.set_cons_zero, List.set_cons_succ]
        refine wpAnyH_take (i := 1) (oi := ?y13O1) (v := ?y13V1) ?y13I1 (by kernel_rfl) (by kernel_rfl) (by kernel_rfl) ?y13Q1 (Or.inl ⟨?y13W1, ?y13Y1⟩) hHeld ?y13R1
        case y13I1 => (simp only [List.getElem?_toArray, List.getElem?_cons_succ, List.getElem?_cons_zero]; exact rfl)
        case y13Q1 => exact fun _ _ _ h => h
        case y13W1 => kernel_rfl
        case y13Y1 => (intro W hSw; obtain ⟨c0, c1, c2⟩ := hSw.p.cells; go_simp; try with_reducible rfl)
        try simp only [Act.put, List.setIfInBounds_toArray, List.set_cons_zero, List.set_cons_succ]
        refine wpAnyH_take (i := 3) (oi := ?y13O3) (v := ?y13V3) ?y13I3 (by kernel_rfl) (by kernel_rfl) (by kernel_rfl) ?y13Q3 (Or.inl ⟨?y13W3, ?y13Y3⟩) hHeld ?y13R3
        case y13I3 => (simp only [List.getElem?_toArray, List.getElem?_cons_succ, List.getElem?_cons_zero]; exact rfl)
        case y13Q3 => exact fun _ _ _ h => h
        case y13W3 => kernel_rfl
        case y13Y3 => (intro W hSw; obtain ⟨c0, c1, c2⟩ := hSw.q.cells; go_simp; try with_reducible rfl)
        try simp only [Act.put, List.setIfInBounds_toArray, List.set_cons_zero, List.set_cons_succ]
        refine wpAnyH_take (i := 4) (oi := ?y13O4) (v := ?y13V4) ?y13I4 (by kernel_rfl) (by kernel_rfl) (by kernel_rfl) ?y13Q4 (Or.inl ⟨?y13W4, ?y13Y4⟩) hHeld ?y13R4
        case y13I4 => (simp only [List.getElem?_toArray, List.getElem?_cons_succ, List.getElem?_cons_zero]; exact rfl)
        case y13Q4 => exact fun _ _ _ h => h
        case y13W4 => kernel_rfl
        case y13Y4 => (intro W hSw; obtain ⟨c0, c1, c2⟩ := hSw.x.cells; go_simp; try with_reducible rfl)
        try simp only [Act.put, List.setIfInBounds_toArray, List.set_cons_zero, List.set_cons_succ]
        refine wpAnyH_ready (rs := [2]) (by kernel_rfl) (by simp) ?_
        refine AllReadyH.cons (o := ?y13O2) ?y13I2 (fun K hK => ?y13R2) AllReadyH.nil
        case y13I2 => (simp only [List.getElem?_toArray, List.getElem?_cons_succ, List.getElem?_cons_zero]; exact rfl)
        rw [if_pos (by kernel_rfl)]
        go_simp
        refine (HC1.out _ (by repeat (first | exact Below.refl _ _ | (with_reducible apply below_drewN) | (with_reducible apply Below.drew)))).mono ?_
        rintro e v1 ⟨n5, A5, l5, k5, x5, rfl, hR, hW⟩
        have hb : Below w11.heap.size w11 v1 := Below.trans (by repeat (first | exact Below.refl _ _ | (with_reducible apply below_drewN) | (with_reducible apply Below.drew))) hW
        have E1 := Lib.hid (H11.out.below hb)
        have R1 := Lib.hid hR
        clear hR hW hb HC1
        have HC2 := Lib.hid (fun (W : World) (hW : Below v1.heap.size v1 W) => minus_c 2148 w.heap.size 5000 (numV zh * ((2 ^ 1074 : Nat) : Int)) X n4 n1 A4 A1 l4 l1 k4 k1 x4 x1 W (Nat.le_trans E1.out.bel.size hW.size) ((E1.out.q.2.below hW).raise 1074) (E1.out.x.2.below hW) (raise_bd (numV_bd HZB.out.2)) HXB.out (by decide) (by decide))
        go_wp2_with fail
        clear hHeld
        refine hK.out _ _ E1.out (fun hHeld => ?_)
        clear hK K
        try simp only [Act.put, List.setIfInBounds_toArray, List.set_cons_zero, List.set_cons_succ]
        refine wpAnyH_ready (rs := [5]) (by kernel_rfl) (by simp) ?_
        refine AllReadyH.cons (o := ?y13O5) ?y13I5 (fun K hK => ?y13R5) AllReadyH.nil
        case y13I5 => (simp only [List.getElem?_toArray, List.getElem?_cons_succ, List.getElem?_cons_zero]; exact rfl)
        rw [if_pos (by kernel_rfl)]
        go_simp
        refine (HC2.out _ (by repeat (first | exact Below.refl _ _ | (with_reducible apply below_drewN) | (with_reducible apply Below.drew)))).mono ?_
        rintro e v2 ⟨n6, A6, l6, k6, x6, rfl, hR, hW⟩
        have hb : Below v1.heap.size v1 v2 := Below.trans (by repeat (first | exact Below.refl _ _ | (with_reducible apply below_drewN) | (with_reducible apply Below.drew))) hW
        have E2 := Lib.hid (E1.out.below hb)
        have R2 := Lib.hid hR
        have R1 := Lib.hid (R1.out.below hb)
        clear hR hW hb HC2
        have HC3 := Lib.hid (fun (W : World) (hW : Below v2.heap.size v2 W) => cmp_c 2148 w.heap.size 6000 (X - numV zl * ((2 ^ 1074 : Nat) : Int)) (numV zh * ((2 ^ 1074 : Nat) : Int) - X) n5 n6 A5 A6 l5 l6 k5 k6 x5 x6 W (Nat.le_trans E2.out.bel.size hW.size) (R1.out.below hW) (R2.out.below hW) (diff_bd HXB.out (raise_bd (numV_bd HZB.out.1))) (diff_bd (raise_bd (numV_bd HZB.out.2)) HXB.out) (by decide) (by decide))
        rw [HX6.out] at HC3
        go_wp2_with fail
        clear hHeld
        refine hK.out _ _ E2.out (fun hHeld => ?_)
        clear hK K
        try simp only [Act.put, List.setIfInBounds_toArray, List.set_cons_zero, List.set_cons_succ]
        refine wpAnyH_ready (rs := [6]) (by kernel_rfl) (by simp) ?_
        refine AllReadyH.cons (o := ?y13O6) ?y13I6 (fun K hK => ?y13R6) AllReadyH.nil
        case y13I6 => (simp only [List.getElem?_toArray, List.getElem?_cons_succ, List.getElem?_cons_zero]; exact rfl)
        rw [if_pos (by kernel_rfl)]
        go_simp
        refine (HC3.out _ (by repeat (first | exact Below.refl _ _ | (with_reducible apply below_drewN) | (with_reducible apply Below.drew)))).mono ?_
        rintro e v3 ⟨rfl, hW⟩
        have hb : Below v2.heap.size v2 v3 := Below.trans (by repeat (first | exact Below.refl _ _ | (with_reducible apply below_drewN) | (with_reducible apply Below.drew))) hW
        have E3 := Lib.hid (E2.out.below hb)
        clear hW hb HC3
        go_wp2_with fail
        clear hHeld
        refine hK.out _ _ E3.out (fun hHeld => ?_)
        clear hK K
        try simp only [Act.put, List.setIfInBounds_toArray, List.set_cons_zero, List.set_cons_succ]
        refine wpAnyH_take (i := 7) (oi := ?y13O7) (v := ?y13V7) ?y13I7 (by kernel_rfl) (by kernel_rfl) (by kernel_rfl) ?y13Q7 (Or.inl ⟨?y13W7, ?y13Y7⟩) hHeld ?y13R7
        case y13I7 => (simp only [List.getElem?_toArray, List.getElem?_cons_succ, List.getElem?_cons_zero]; exact rfl)
        case y13Q7 => exact fun _ _ _ h => h
        case y13W7 => kernel_rfl
        case y13Y7 => (intro W hSw; clear hSw; go_simp; try with_reducible rfl)
        try simp only [Act.put, List.setIfInBounds_toArray, List.set_cons_zero, List.set_cons_succ]
        refine wpAnyH_done (by kernel_rfl) ?_ _
        refine NoPanic.normal ?_
        go_wp2_with fail
        go_meet
        exact ⟨rfl, E3⟩
      case rest =>
        obtain ⟨rfl, hG2⟩ := hcut
        obtain ⟨u2, rfl⟩ : ∃ wo : World, wo = wc := ⟨_, rfl⟩
        have G2 := Lib.hid hG2.out
        clear hG2
        go_wp2_with fail
        refine (HBM.out _).mono ?_
        rintro e w' ⟨rfl, rfl⟩
        rcases HEND.out with ⟨rfl, h1⟩ | ⟨rfl, h1⟩ | ⟨rfl, h1⟩
        · rw [h] at h1; cases h1
        · go_wp2_with fail
          refine (started_calls _).mono ?_
          rintro e wz ⟨rfl, hW⟩
          have HZ := Lib.hid (below_next G2.out.bel hW)
          clear hW
          go_wp2
          go_ret
          exact ⟨rfl, HZ.out⟩
        · have h2 : (zm : Int) % 2 = 0 := by omega
          go_wp2_with fail
          refine (started_calls _).mono ?_
          rintro e wz ⟨rfl, hW⟩
          have HZ := Lib.hid (below_next G2.out.bel hW)
          clear hW
          go_wp2
          go_ret
          exact ⟨rfl, HZ.out⟩
end Go.Proofs.YtikdhkmcdmnadaaGreatFmtBesafter
