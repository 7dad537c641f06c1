import Derived.Test.YtfgdmiigmcnmpaaGreatFmtJ34
set_option linter.unusedVariables false
set_option linter.unusedSimpArgs false
namespace Go.Proofs.YtfgdmiigmcnmpaaGreatFmt
open Go.RowKit
attribute [local go_sem ↓] Go.wp_at_zero Go.wp_at_succ

/-! ### RoundShares, the walks -/
set_option exponentiation.threshold 6000 in
set_option maxHeartbeats 8000000 in
set_option maxRecDepth 100000 in
theorem shares_lo (u v zp zq : Nat) (s : Int) (o0 : Option Nat) (hu : u < 18446744073709551616) (hv : v < 18446744073709551616) (hf : fin u = true) (hg : fin v = true) (hF : ShareF u v zp zq true false s o0) (hs : Int.sign (numV v) = s)
    (hd2 : ∀ W, Calls Tryz.prog 9 #[.int .i64 2, .float .f64 u, .float .f64 v] W fun e w' => e = .returned (.tuple #[.float .f64 zp, .bool true]) ∧ Below W.heap.size W w')
    (hd1 : ∀ W, Calls Tryz.prog 9 #[.int .i64 1, .float .f64 u, .float .f64 v] W fun e w' => e = .returned (.tuple #[.float .f64 zq, .bool false]) ∧ Below W.heap.size W w')
    (hd0 : ∀ W, Calls Tryz.prog 9 #[.int .i64 0, .float .f64 u, .float .f64 v] W fun e w' => e = .returned (.tuple #[.float .f64 (o0.getD 0), .bool o0.isSome]) ∧ Below W.heap.size W w') (w : World) :
    Calls Tryz.prog 3 #[.float .f64 u, .float .f64 v] w fun e w' => e = .returned (.bool true) ∧ Below w.heap.size w w' := by
  have HB := Lib.hid (And.intro hu hv)
  have HBD := Lib.hid (And.intro (numV_bd hu) (And.intro (numV_bd hv) (And.intro (numV_bd hF.up) (numV_bd hF.uq))))
  have HF := Lib.hid hF
  have HS := Lib.hid hs
  have HD2 := Lib.hid hd2
  have HD1 := Lib.hid hd1
  have HD0 := Lib.hid hd0
  obtain ⟨t1, ht1⟩ : ∃ t, Int.sign (numV zp * numV v - numV u * ((2 ^ 1074 : Nat) : Int)) = t := ⟨_, rfl⟩
  obtain ⟨t2, ht2⟩ : ∃ t, Int.sign (numV zq * numV v - numV u * ((2 ^ 1074 : Nat) : Int)) = t := ⟨_, rfl⟩
  have hl1 : ¬ (0 < s * t1) := by rw [← ht1]; exact hF.lo rfl
  have hs0 : (s == 0) = false := by rcases hF.s1 with h | h <;> rw [h] <;> rfl
  have HT1 := Lib.hid ht1
  have HT2 := Lib.hid ht2
  have HBO := Lib.hid hF.both
  rw [ht1, ht2] at HBO
  have hvv1 : IntKind.i64.wrap (s * t1) = s * t1 := wrap_one' hF.s1 (by rw [← ht1]; exact sign_in _)
  have hvv2 : IntKind.i64.wrap (s * t2) = s * t2 := wrap_one' hF.s1 (by rw [← ht2]; exact sign_in _)
  obtain ⟨st1, hst1⟩ : ∃ t, s * t1 = t := ⟨_, rfl⟩
  obtain ⟨st2, hst2⟩ : ∃ t, s * t2 = t := ⟨_, rfl⟩
  have hv1 := hvv1.trans hst1
  have hv2 := hvv2.trans hst2
  have hq1 : decide (0 < st1) = false := decide_eq_false (by rw [← hst1]; exact hl1)
  clear hl1  hvv1 hvv2 hst1 hst2
  clear hu hv hF hs hd2 hd1 hd0 ht1 ht2
  go_enter Tryz.func3, Tryz.ntmps3
  go_wp2_with fail
  refine (lnum_calls u w.heap.size w HB.out.1 (Nat.le_refl _)).mono ?_
  rintro e w1 ⟨n1, A1, l1, k1, x1, rfl, hR, hW⟩
  rw [hf]
  have hB := below_new (Below.refl w1.heap.size w1) (.cells #[.bool n1, .slice A1 l1 k1, .int .i64 x1] 25)
  have H1 := Lib.hid (And.intro (NB.new hR) (below_next hW hB))
  clear hR hW hB hf
  go_wp2_with fail
  refine (lnum_calls v w.heap.size _ HB.out.2 H1.out.2.size).mono ?_
  rintro e w2 ⟨n2, A2, l2, k2, x2, rfl, hR, hW⟩
  rw [hg]
  have hB := below_new (Below.refl w2.heap.size w2) (.cells #[.bool n2, .slice A2 l2 k2, .int .i64 x2] 25)
  have hb1 := below_next hW hB
  have H2 := Lib.hid (And.intro (H1.out.1.below hb1) (And.intro (NB.new hR) (below_next H1.out.2 hb1)))
  clear hR hW hB hb1 H1 hg
  go_wp2_with fail
  refine (HD2.out _).mono ?_
  rintro e w3 ⟨rfl, hW⟩
  have H3 := Lib.hid (And.intro (H2.out.1.below hW) (And.intro (H2.out.2.1.below hW) (below_next H2.out.2.2 hW)))
  clear hW H2
  go_wp2_with fail
  refine (HD1.out _).mono ?_
  rintro e w4 ⟨rfl, hW⟩
  have H4 := Lib.hid (And.intro (H3.out.1.below hW) (And.intro (H3.out.2.1.below hW) (below_next H3.out.2.2 hW)))
  clear hW H3
  obtain ⟨y0, y1, y2⟩ := H4.out.2.1.cells
  have HSG := Lib.hid (sign_c 1074 w.heap.size _ n2 A2 l2 k2 x2 w4 H4.out.2.1.2)
  rw [HS.out] at HSG
  go_wp2_with fail
  refine HSG.out.mono ?_
  rintro e w4b ⟨rfl, hW⟩
  have H4b := Lib.hid (And.intro (H4.out.1.below hW) (And.intro (H4.out.2.1.below hW) (below_next H4.out.2.2 hW)))
  clear hW H4 HSG y0 y1 y2
  go_wp2_with fail
  refine (lnum_calls zp w.heap.size w4b HF.out.up H4b.out.2.2.size).mono ?_
  rintro e w5 ⟨n3, A3, l3, k3, x3, rfl, hR, hW⟩
  have hB := below_new (Below.refl w5.heap.size w5) (.cells #[.bool n3, .slice A3 l3 k3, .int .i64 x3] 25)
  have hb1 := below_next hW hB
  have H5 := Lib.hid (And.intro (H4b.out.1.below hb1) (And.intro (H4b.out.2.1.below hb1) (And.intro (NB.new hR) (below_next H4b.out.2.2 hb1))))
  clear hR hW hB hb1 H4b
  go_wp2_with fail
  refine (lnum_calls zq w.heap.size _ HF.out.uq H5.out.2.2.2.size).mono ?_
  rintro e w6 ⟨n4, A4, l4, k4, x4, rfl, hR, hW⟩
  have hB := below_new (Below.refl w6.heap.size w6) (.cells #[.bool n4, .slice A4 l4 k4, .int .i64 x4] 25)
  have hb1 := below_next hW hB
  have H6 : Hid (Four w (w6.alloc (.cells #[.bool n4, .slice A4 l4 k4, .int .i64 x4] 25)) w.heap.size w1.heap.size w2.heap.size w5.heap.size w6.heap.size (numV u) (numV v) (numV zp) (numV zq) n1 n2 n3 n4 A1 A2 A3 A4 l1 l2 l3 l4 k1 k2 k3 k4 x1 x2 x3 x4) := ⟨H5.out.1.below hb1, H5.out.2.1.below hb1, H5.out.2.2.1.below hb1, NB.new hR, below_next H5.out.2.2.2 hb1⟩
  clear hR hW hB hb1 H5
  obtain ⟨y0, y1, y2⟩ := H6.out.y.cells
  have HSG := Lib.hid (sign_c 1074 w.heap.size _ n2 A2 l2 k2 x2 _ H6.out.y.2)
  rw [HS.out] at HSG
  go_wp2_with fail
  refine HSG.out.mono ?_
  rintro e w7 ⟨rfl, hW⟩
  have H7 := Lib.hid (H6.out.below hW)
  clear hW HSG y0 y1 y2 H6
  go_upto_region 12 with fail
  go_cut [105] (fun s wx => s = .bool false ∧ Hid (Four w wx w.heap.size w1.heap.size w2.heap.size w5.heap.size w6.heap.size (numV u) (numV v) (numV zp) (numV zq) n1 n2 n3 n4 A1 A2 A3 A4 l1 l2 l3 l4 k1 k2 k3 k4 x1 x2 x3 x4))
  case first =>
    have HTP := Lib.hid (fun (W : World) (hW : Below w7.heap.size w7 W) => times_c2 1074 1074 w.heap.size 2098 (numV zp) (numV v) n3 n2 A3 A2 l3 l2 k3 k2 x3 x2 W (Nat.le_trans H7.out.bel.size hW.size) (H7.out.p.2.below hW) (H7.out.y.2.below hW) HBD.out.2.2.1 HBD.out.2.1 (by decide) (by decide) (by decide))
    refine wp_region_noPanic ?_
    refine wp_region_held_drew (S := (fun wx => Four w wx w.heap.size w1.heap.size w2.heap.size w5.heap.size w6.heap.size (numV u) (numV v) (numV zp) (numV zq) n1 n2 n3 n4 A1 A2 A3 A4 l1 l2 l3 l4 k1 k2 k3 k4 x1 x2 x3 x4)) (by kernel_rfl) (H7.out.below (by repeat (first | exact Below.refl _ _ | (with_reducible apply below_drewN) | (with_reducible apply Below.drew)))) (fun hHeld => ?_)
    change wpAnyH _ _ _ _ _ 24 _ _ _
    refine wpAnyH_take (i := 0) (oi := ?rgO0) (v := ?rgV0) ?rgI0 (by kernel_rfl) (by kernel_rfl) (by kernel_rfl) ?rgQ0 (Or.inl ⟨?rgW0, ?rgY0⟩) hHeld ?rgR0
    case rgI0 => (simp only [List.getElem?_toArray, List.getElem?_cons_succ, List.getElem?_cons_zero]; exact rfl)
    case rgQ0 => exact fun _ _ _ h => h
    case rgW0 => kernel_rfl
    case rgY0 => (intro W hSw; clear hSw; go_simp; try with_reducible rfl)
    try simp only [Act.put, List.setIfInBounds_toArray, List.set_cons_zero, List.set_cons_succ]
    refine wpAnyH_take (i := 1) (oi := ?rgO1) (v := ?rgV1) ?rgI1 (by kernel_rfl) (by kernel_rfl) (by kernel_rfl) ?rgQ1 (Or.inl ⟨?rgW1, ?rgY1⟩) hHeld ?rgR1
    case rgI1 => (simp only [List.getElem?_toArray, List.getElem?_cons_succ, List.getElem?_cons_zero]; exact rfl)
    case rgQ1 => exact fun _ _ _ h => h
    case rgW1 => kernel_rfl
    case rgY1 => (intro W hSw; clear hSw; go_simp; try with_reducible rfl)
    try simp only [Act.put, List.setIfInBounds_toArray, List.set_cons_zero, List.set_cons_succ]
    refine wpAnyH_take (i := 2) (oi := ?rgO2) (v := ?rgV2) ?rgI2 (by kernel_rfl) (by kernel_rfl) (by kernel_rfl) ?rgQ2 (Or.inl ⟨?rgW2, ?rgY2⟩) hHeld ?rgR2
    case rgI2 => (simp only [List.getElem?_toArray, List.getElem?_cons_succ, List.getElem?_cons_zero]; exact rfl)
    case rgQ2 => exact fun _ _ _ h => h
    case rgW2 => kernel_rfl
    case rgY2 => (intro W hSw; clear hSw; go_simp; try with_reducible rfl)
    try simp only [Act.put, List.setIfInBounds_toArray, List.set_cons_zero, List.set_cons_succ]
    refine wpAnyH_take (i := 3) (oi := ?rgO3) (v := ?rgV3) ?rgI3 (by kernel_rfl) (by kernel_rfl) (by kernel_rfl) ?rgQ3 (Or.inl ⟨?rgW3, ?rgY3⟩) hHeld ?rgR3
    case rgI3 => (simp only [List.getElem?_toArray, List.getElem?_cons_succ, List.getElem?_cons_zero]; exact rfl)
    case rgQ3 => exact fun _ _ _ h => h
    case rgW3 => kernel_rfl
    case rgY3 => (intro W hSw; obtain ⟨c0, c1, c2⟩ := hSw.p.cells; go_simp; try with_reducible rfl)
    try simp only [Act.put, List.setIfInBounds_toArray, List.set_cons_zero, List.set_cons_succ]
    refine wpAnyH_take (i := 4) (oi := ?rgO4) (v := ?rgV4) ?rgI4 (by kernel_rfl) (by kernel_rfl) (by kernel_rfl) ?rgQ4 (Or.inl ⟨?rgW4, ?rgY4⟩) hHeld ?rgR4
    case rgI4 => (simp only [List.getElem?_toArray, List.getElem?_cons_succ, List.getElem?_cons_zero]; exact rfl)
    case rgQ4 => exact fun _ _ _ h => h
    case rgW4 => kernel_rfl
    case rgY4 => (intro W hSw; obtain ⟨c0, c1, c2⟩ := hSw.y.cells; go_simp; try with_reducible rfl)
    try simp only [Act.put, List.setIfInBounds_toArray, List.set_cons_zero, List.set_cons_succ]
    refine wpAnyH_take (i := 6) (oi := ?rgO6) (v := ?rgV6) ?rgI6 (by kernel_rfl) (by kernel_rfl) (by kernel_rfl) ?rgQ6 (Or.inl ⟨?rgW6, ?rgY6⟩) hHeld ?rgR6
    case rgI6 => (simp only [List.getElem?_toArray, List.getElem?_cons_succ, List.getElem?_cons_zero]; exact rfl)
    case rgQ6 => exact fun _ _ _ h => h
    case rgW6 => kernel_rfl
    case rgY6 => (intro W hSw; obtain ⟨c0, c1, c2⟩ := hSw.x.cells; go_simp; try with_reducible rfl)
    try simp only [Act.put, List.setIfInBounds_toArray, List.set_cons_zero, List.set_cons_succ]
    refine wpAnyH_ready (rs := [5]) (by kernel_rfl) (by simp) ?_
    refine AllReadyH.cons (o := ?rgO5) ?rgI5 (fun K hK => ?rgR5) AllReadyH.nil
    case rgI5 => (simp only [List.getElem?_toArray, List.getElem?_cons_succ, List.getElem?_cons_zero]; exact rfl)
    rw [if_pos (by kernel_rfl)]
    go_simp
    refine (HTP.out _ (by repeat (first | exact Below.refl _ _ | (with_reducible apply below_drewN) | (with_reducible apply Below.drew)))).mono ?_
    rintro e v1 ⟨n5, A5, l5, k5, x5, rfl, hR, hW⟩
    have hb : Below w7.heap.size w7 v1 := Below.trans (by repeat (first | exact Below.refl _ _ | (with_reducible apply below_drewN) | (with_reducible apply Below.drew))) hW
    have E1 := Lib.hid (H7.out.below hb)
    have R1 := Lib.hid hR
    clear hR hW hb HTP
    have HCP := Lib.hid (fun (W : World) (hW : Below v1.heap.size v1 W) => cmp_c 2148 w.heap.size 5000 (numV zp * numV v) (numV u * ((2 ^ 1074 : Nat) : Int)) n5 n1 A5 A1 l5 l1 k5 k1 x5 x1 W (Nat.le_trans E1.out.bel.size hW.size) (R1.out.below hW) ((E1.out.x.2.below hW).raise 1074) (prod_bd HBD.out.2.2.1 HBD.out.2.1) (raise_bd HBD.out.1) (by decide) (by decide)); rw [HT1.out] at HCP
    go_wp2_with fail
    clear hHeld
    refine hK.out _ _ E1.out (fun hHeld => ?_)
    clear hK K
    try simp only [Act.put, List.setIfInBounds_toArray, List.set_cons_zero, List.set_cons_succ]
    refine wpAnyH_ready (rs := [7]) (by kernel_rfl) (by simp) ?_
    refine AllReadyH.cons (o := ?rgO7) ?rgI7 (fun K hK => ?rgR7) AllReadyH.nil
    case rgI7 => (simp only [List.getElem?_toArray, List.getElem?_cons_succ, List.getElem?_cons_zero]; exact rfl)
    rw [if_pos (by kernel_rfl)]
    go_simp
    refine (HCP.out _ (by repeat (first | exact Below.refl _ _ | (with_reducible apply below_drewN) | (with_reducible apply Below.drew)))).mono ?_
    rintro e v4 ⟨rfl, hW⟩
    have hb : Below v1.heap.size v1 v4 := Below.trans (by repeat (first | exact Below.refl _ _ | (with_reducible apply below_drewN) | (with_reducible apply Below.drew))) hW
    have E4 := Lib.hid (E1.out.below hb)
    clear hW hb HCP
    go_wp2_with fail
    clear hHeld
    refine hK.out _ _ E4.out (fun hHeld => ?_)
    clear hK K
    try simp only [Act.put, List.setIfInBounds_toArray, List.set_cons_zero, List.set_cons_succ]
    refine wpAnyH_take (i := 8) (oi := ?rgO8) (v := ?rgV8) ?rgI8 (by kernel_rfl) (by kernel_rfl) (by kernel_rfl) ?rgQ8 (Or.inl ⟨?rgW8, ?rgY8⟩) hHeld ?rgR8
    case rgI8 => (simp only [List.getElem?_toArray, List.getElem?_cons_succ, List.getElem?_cons_zero]; exact rfl)
    case rgQ8 => exact fun _ _ _ h => h
    case rgW8 => kernel_rfl
    case rgY8 => (intro W hSw; clear hSw; go_simp; try with_reducible rfl)
    try simp only [Act.put, List.setIfInBounds_toArray, List.set_cons_zero, List.set_cons_succ]
    refine wpAnyH_take (i := 9) (oi := ?rgO9) (v := ?rgV9) ?rgI9 (by kernel_rfl) (by kernel_rfl) (by kernel_rfl) ?rgQ9 (Or.inl ⟨?rgW9, ?rgY9⟩) hHeld ?rgR9
    case rgI9 => (simp only [List.getElem?_toArray, List.getElem?_cons_succ, List.getElem?_cons_zero]; exact rfl)
    case rgQ9 => exact fun _ _ _ h => h
    case rgW9 => kernel_rfl
    case rgY9 => (intro W hSw; clear hSw; go_simp; try with_reducible rfl)
    try simp only [Act.put, List.setIfInBounds_toArray, List.set_cons_zero, List.set_cons_succ]
    refine wpAnyH_take (i := 10) (oi := ?rgO10) (v := ?rgV10) ?rgI10 (by kernel_rfl) (by kernel_rfl) (by kernel_rfl) ?rgQ10 (Or.inl ⟨?rgW10, ?rgY10⟩) hHeld ?rgR10
    case rgI10 => (simp only [List.getElem?_toArray, List.getElem?_cons_succ, List.getElem?_cons_zero]; exact rfl)
    case rgQ10 => exact fun _ _ _ h => h
    case rgW10 => kernel_rfl
    case rgY10 => (intro W hSw; clear hSw; go_simp; try with_reducible rfl)
    try simp only [Act.put, List.setIfInBounds_toArray, List.set_cons_zero, List.set_cons_succ]
    refine wpAnyH_take (i := 11) (oi := ?rgO11) (v := ?rgV11) ?rgI11 (by kernel_rfl) (by kernel_rfl) (by kernel_rfl) ?rgQ11 (Or.inl ⟨?rgW11, ?rgY11⟩) hHeld ?rgR11
    case rgI11 => (simp only [List.getElem?_toArray, List.getElem?_cons_succ, List.getElem?_cons_zero]; exact rfl)
    case rgQ11 => exact fun _ _ _ h => h
    case rgW11 => kernel_rfl
    case rgY11 => (intro W hSw; clear hSw; go_simp; try with_reducible rfl)
    try simp only [Act.put, List.setIfInBounds_toArray, List.set_cons_zero, List.set_cons_succ]
    refine wpAnyH_take (i := 12) (oi := ?rgO12) (v := ?rgV12) ?rgI12 (by kernel_rfl) (by kernel_rfl) (by kernel_rfl) ?rgQ12 (Or.inl ⟨?rgW12, ?rgY12⟩) hHeld ?rgR12
    case rgI12 => (simp only [List.getElem?_toArray, List.getElem?_cons_succ, List.getElem?_cons_zero]; exact rfl)
    case rgQ12 => exact fun _ _ _ h => h
    case rgW12 => kernel_rfl
    case rgY12 => (intro W hSw; clear hSw; go_simp; try with_reducible rfl)
    try simp only [Act.put, List.setIfInBounds_toArray, List.set_cons_zero, List.set_cons_succ]
    refine wpAnyH_take (i := 13) (oi := ?rgO13) (v := ?rgV13) ?rgI13 (by kernel_rfl) (by kernel_rfl) (by kernel_rfl) ?rgQ13 (Or.inl ⟨?rgW13, ?rgY13⟩) hHeld ?rgR13
    case rgI13 => (simp only [List.getElem?_toArray, List.getElem?_cons_succ, List.getElem?_cons_zero]; exact rfl)
    case rgQ13 => exact fun _ _ _ h => h
    case rgW13 => kernel_rfl
    case rgY13 => (intro W hSw; clear hSw; go_simp; try with_reducible rfl)
    try simp only [Act.put, List.setIfInBounds_toArray, List.set_cons_zero, List.set_cons_succ]
    refine wpAnyH_take (i := 14) (oi := ?rgO14) (v := undef) ?rgI14 (by kernel_rfl) (by kernel_rfl) (by kernel_rfl) ?rgQ14 (Or.inr ⟨?rgW14, rfl⟩) hHeld ?rgR14
    case rgI14 => (simp only [List.getElem?_toArray, List.getElem?_cons_succ, List.getElem?_cons_zero]; exact rfl)
    case rgQ14 => exact fun _ _ _ h => h
    case rgW14 => kernel_rfl
    try simp only [Act.put, List.setIfInBounds_toArray, List.set_cons_zero, List.set_cons_succ]
    refine wpAnyH_take (i := 15) (oi := ?rgO15) (v := undef) ?rgI15 (by kernel_rfl) (by kernel_rfl) (by kernel_rfl) ?rgQ15 (Or.inr ⟨?rgW15, rfl⟩) hHeld ?rgR15
    case rgI15 => (simp only [List.getElem?_toArray, List.getElem?_cons_succ, List.getElem?_cons_zero]; exact rfl)
    case rgQ15 => exact fun _ _ _ h => h
    case rgW15 => kernel_rfl
    try simp only [Act.put, List.setIfInBounds_toArray, List.set_cons_zero, List.set_cons_succ]
    refine wpAnyH_take (i := 16) (oi := ?rgO16) (v := undef) ?rgI16 (by kernel_rfl) (by kernel_rfl) (by kernel_rfl) ?rgQ16 (Or.inr ⟨?rgW16, rfl⟩) hHeld ?rgR16
    case rgI16 => (simp only [List.getElem?_toArray, List.getElem?_cons_succ, List.getElem?_cons_zero]; exact rfl)
    case rgQ16 => exact fun _ _ _ h => h
    case rgW16 => kernel_rfl
    try simp only [Act.put, List.setIfInBounds_toArray, List.set_cons_zero, List.set_cons_succ]
    refine wpAnyH_take (i := 17) (oi := ?rgO17) (v := undef) ?rgI17 (by kernel_rfl) (by kernel_rfl) (by kernel_rfl) ?rgQ17 (Or.inr ⟨?rgW17, rfl⟩) hHeld ?rgR17
    case rgI17 => (simp only [List.getElem?_toArray, List.getElem?_cons_succ, List.getElem?_cons_zero]; exact rfl)
    case rgQ17 => exact fun _ _ _ h => h
    case rgW17 => kernel_rfl
    try simp only [Act.put, List.setIfInBounds_toArray, List.set_cons_zero, List.set_cons_succ]
    refine wpAnyH_take (i := 18) (oi := ?rgO18) (v := undef) ?rgI18 (by kernel_rfl) (by kernel_rfl) (by kernel_rfl) ?rgQ18 (Or.inr ⟨?rgW18, rfl⟩) hHeld ?rgR18
    case rgI18 => (simp only [List.getElem?_toArray, List.getElem?_cons_succ, List.getElem?_cons_zero]; exact rfl)
    case rgQ18 => exact fun _ _ _ h => h
    case rgW18 => kernel_rfl
    try simp only [Act.put, List.setIfInBounds_toArray, List.set_cons_zero, List.set_cons_succ]
    refine wpAnyH_take (i := 19) (oi := ?rgO19) (v := undef) ?rgI19 (by kernel_rfl) (by kernel_rfl) (by kernel_rfl) ?rgQ19 (Or.inr ⟨?rgW19, rfl⟩) hHeld ?rgR19
    case rgI19 => (simp only [List.getElem?_toArray, List.getElem?_cons_succ, List.getElem?_cons_zero]; exact rfl)
    case rgQ19 => exact fun _ _ _ h => h
    case rgW19 => kernel_rfl
    try simp only [Act.put, List.setIfInBounds_toArray, List.set_cons_zero, List.set_cons_succ]
    refine wpAnyH_take (i := 20) (oi := ?rgO20) (v := undef) ?rgI20 (by kernel_rfl) (by kernel_rfl) (by kernel_rfl) ?rgQ20 (Or.inr ⟨?rgW20, rfl⟩) hHeld ?rgR20
    case rgI20 => (simp only [List.getElem?_toArray, List.getElem?_cons_succ, List.getElem?_cons_zero]; exact rfl)
    case rgQ20 => exact fun _ _ _ h => h
    case rgW20 => kernel_rfl
    try simp only [Act.put, List.setIfInBounds_toArray, List.set_cons_zero, List.set_cons_succ]
    refine wpAnyH_take (i := 21) (oi := ?rgO21) (v := undef) ?rgI21 (by kernel_rfl) (by kernel_rfl) (by kernel_rfl) ?rgQ21 (Or.inr ⟨?rgW21, rfl⟩) hHeld ?rgR21
    case rgI21 => (simp only [List.getElem?_toArray, List.getElem?_cons_succ, List.getElem?_cons_zero]; exact rfl)
    case rgQ21 => exact fun _ _ _ h => h
    case rgW21 => kernel_rfl
    try simp only [Act.put, List.setIfInBounds_toArray, List.set_cons_zero, List.set_cons_succ]
    refine wpAnyH_take (i := 22) (oi := ?rgO22) (v := ?rgV22) ?rgI22 (by kernel_rfl) (by kernel_rfl) (by kernel_rfl) ?rgQ22 (Or.inl ⟨?rgW22, ?rgY22⟩) hHeld ?rgR22
    case rgI22 => (simp only [List.getElem?_toArray, List.getElem?_cons_succ, List.getElem?_cons_zero]; exact rfl)
    case rgQ22 => exact fun _ _ _ h => h
    case rgW22 => kernel_rfl
    case rgY22 => (intro W hSw; clear hSw; go_simp; try with_reducible rfl)
    try simp only [Act.put, List.setIfInBounds_toArray, List.set_cons_zero, List.set_cons_succ]
    refine wpAnyH_take (i := 23) (oi := ?rgO23) (v := ?rgV23) ?rgI23 (by kernel_rfl) (by kernel_rfl) (by kernel_rfl) ?rgQ23 (Or.inl ⟨?rgW23, ?rgY23⟩) hHeld ?rgR23
    case rgI23 => (simp only [List.getElem?_toArray, List.getElem?_cons_succ, List.getElem?_cons_zero]; exact rfl)
    case rgQ23 => exact fun _ _ _ h => h
    case rgW23 => kernel_rfl
    case rgY23 => (intro W hSw; clear hSw; go_simp; try with_reducible rfl)
    try simp only [Act.put, List.setIfInBounds_toArray, List.set_cons_zero, List.set_cons_succ]
    refine wpAnyH_done (by kernel_rfl) ?_ _
    refine NoPanic.normal ?_
    go_wp2_with fail
    go_meet
    exact ⟨rfl, E4⟩
  case rest =>
    obtain ⟨rfl, hEn⟩ := hcut
    obtain ⟨w8, rfl⟩ : ∃ wo : World, wo = wc := ⟨_, rfl⟩
    go_wp2_with fail
    refine (started_calls _).mono ?_
    rintro e wz ⟨rfl, hW⟩
    have HZ := Lib.hid (below_next hEn.out.bel hW)
    clear hW
    go_wp2
    go_ret
    exact ⟨rfl, HZ.out⟩
set_option exponentiation.threshold 6000 in
set_option maxHeartbeats 8000000 in
set_option maxRecDepth 100000 in
theorem shares_hi (u v zp zq : Nat) (s : Int) (o0 : Option Nat) (hu : u < 18446744073709551616) (hv : v < 18446744073709551616) (hf : fin u = true) (hg : fin v = true) (hF : ShareF u v zp zq false true s o0) (hs : Int.sign (numV v) = s)
    (hd2 : ∀ W, Calls Tryz.prog 9 #[.int .i64 2, .float .f64 u, .float .f64 v] W fun e w' => e = .returned (.tuple #[.float .f64 zp, .bool false]) ∧ Below W.heap.size W w')
    (hd1 : ∀ W, Calls Tryz.prog 9 #[.int .i64 1, .float .f64 u, .float .f64 v] W fun e w' => e = .returned (.tuple #[.float .f64 zq, .bool true]) ∧ Below W.heap.size W w')
    (hd0 : ∀ W, Calls Tryz.prog 9 #[.int .i64 0, .float .f64 u, .float .f64 v] W fun e w' => e = .returned (.tuple #[.float .f64 (o0.getD 0), .bool o0.isSome]) ∧ Below W.heap.size W w') (w : World) :
    Calls Tryz.prog 3 #[.float .f64 u, .float .f64 v] w fun e w' => e = .returned (.bool true) ∧ Below w.heap.size w w' := by
  have HB := Lib.hid (And.intro hu hv)
  have HBD := Lib.hid (And.intro (numV_bd hu) (And.intro (numV_bd hv) (And.intro (numV_bd hF.up) (numV_bd hF.uq))))
  have HF := Lib.hid hF
  have HS := Lib.hid hs
  have HD2 := Lib.hid hd2
  have HD1 := Lib.hid hd1
  have HD0 := Lib.hid hd0
  obtain ⟨t1, ht1⟩ : ∃ t, Int.sign (numV zp * numV v - numV u * ((2 ^ 1074 : Nat) : Int)) = t := ⟨_, rfl⟩
  obtain ⟨t2, ht2⟩ : ∃ t, Int.sign (numV zq * numV v - numV u * ((2 ^ 1074 : Nat) : Int)) = t := ⟨_, rfl⟩
  have hl2 : ¬ (s * t2 < 0) := by rw [← ht2]; exact hF.hi rfl
  have hs0 : (s == 0) = false := by rcases hF.s1 with h | h <;> rw [h] <;> rfl
  have HT1 := Lib.hid ht1
  have HT2 := Lib.hid ht2
  have HBO := Lib.hid hF.both
  rw [ht1, ht2] at HBO
  have hvv1 : IntKind.i64.wrap (s * t1) = s * t1 := wrap_one' hF.s1 (by rw [← ht1]; exact sign_in _)
  have hvv2 : IntKind.i64.wrap (s * t2) = s * t2 := wrap_one' hF.s1 (by rw [← ht2]; exact sign_in _)
  obtain ⟨st1, hst1⟩ : ∃ t, s * t1 = t := ⟨_, rfl⟩
  obtain ⟨st2, hst2⟩ : ∃ t, s * t2 = t := ⟨_, rfl⟩
  have hv1 := hvv1.trans hst1
  have hv2 := hvv2.trans hst2
  have hq2 : decide (st2 < 0) = false := decide_eq_false (by rw [← hst2]; exact hl2)
  clear hl2 hvv1 hvv2 hst1 hst2
  clear hu hv hF hs hd2 hd1 hd0 ht1 ht2
  go_enter Tryz.func3, Tryz.ntmps3
  go_wp2_with fail
  refine (lnum_calls u w.heap.size w HB.out.1 (Nat.le_refl _)).mono ?_
  rintro e w1 ⟨n1, A1, l1, k1, x1, rfl, hR, hW⟩
  rw [hf]
  have hB := below_new (Below.refl w1.heap.size w1) (.cells #[.bool n1, .slice A1 l1 k1, .int .i64 x1] 25)
  have H1 := Lib.hid (And.intro (NB.new hR) (below_next hW hB))
  clear hR hW hB hf
  go_wp2_with fail
  refine (lnum_calls v w.heap.size _ HB.out.2 H1.out.2.size).mono ?_
  rintro e w2 ⟨n2, A2, l2, k2, x2, rfl, hR, hW⟩
  rw [hg]
  have hB := below_new (Below.refl w2.heap.size w2) (.cells #[.bool n2, .slice A2 l2 k2, .int .i64 x2] 25)
  have hb1 := below_next hW hB
  have H2 := Lib.hid (And.intro (H1.out.1.below hb1) (And.intro (NB.new hR) (below_next H1.out.2 hb1)))
  clear hR hW hB hb1 H1 hg
  go_wp2_with fail
  refine (HD2.out _).mono ?_
  rintro e w3 ⟨rfl, hW⟩
  have H3 := Lib.hid (And.intro (H2.out.1.below hW) (And.intro (H2.out.2.1.below hW) (below_next H2.out.2.2 hW)))
  clear hW H2
  go_wp2_with fail
  refine (HD1.out _).mono ?_
  rintro e w4 ⟨rfl, hW⟩
  have H4 := Lib.hid (And.intro (H3.out.1.below hW) (And.intro (H3.out.2.1.below hW) (below_next H3.out.2.2 hW)))
  clear hW H3
  obtain ⟨y0, y1, y2⟩ := H4.out.2.1.cells
  have HSG := Lib.hid (sign_c 1074 w.heap.size _ n2 A2 l2 k2 x2 w4 H4.out.2.1.2)
  rw [HS.out] at HSG
  go_wp2_with fail
  refine HSG.out.mono ?_
  rintro e w4b ⟨rfl, hW⟩
  have H4b := Lib.hid (And.intro (H4.out.1.below hW) (And.intro (H4.out.2.1.below hW) (below_next H4.out.2.2 hW)))
  clear hW H4 HSG y0 y1 y2
  go_wp2_with fail
  refine (lnum_calls zp w.heap.size w4b HF.out.up H4b.out.2.2.size).mono ?_
  rintro e w5 ⟨n3, A3, l3, k3, x3, rfl, hR, hW⟩
  have hB := below_new (Below.refl w5.heap.size w5) (.cells #[.bool n3, .slice A3 l3 k3, .int .i64 x3] 25)
  have hb1 := below_next hW hB
  have H5 := Lib.hid (And.intro (H4b.out.1.below hb1) (And.intro (H4b.out.2.1.below hb1) (And.intro (NB.new hR) (below_next H4b.out.2.2 hb1))))
  clear hR hW hB hb1 H4b
  go_wp2_with fail
  refine (lnum_calls zq w.heap.size _ HF.out.uq H5.out.2.2.2.size).mono ?_
  rintro e w6 ⟨n4, A4, l4, k4, x4, rfl, hR, hW⟩
  have hB := below_new (Below.refl w6.heap.size w6) (.cells #[.bool n4, .slice A4 l4 k4, .int .i64 x4] 25)
  have hb1 := below_next hW hB
  have H6 : Hid (Four w (w6.alloc (.cells #[.bool n4, .slice A4 l4 k4, .int .i64 x4] 25)) w.heap.size w1.heap.size w2.heap.size w5.heap.size w6.heap.size (numV u) (numV v) (numV zp) (numV zq) n1 n2 n3 n4 A1 A2 A3 A4 l1 l2 l3 l4 k1 k2 k3 k4 x1 x2 x3 x4) := ⟨H5.out.1.below hb1, H5.out.2.1.below hb1, H5.out.2.2.1.below hb1, NB.new hR, below_next H5.out.2.2.2 hb1⟩
  clear hR hW hB hb1 H5
  obtain ⟨y0, y1, y2⟩ := H6.out.y.cells
  have HSG := Lib.hid (sign_c 1074 w.heap.size _ n2 A2 l2 k2 x2 _ H6.out.y.2)
  rw [HS.out] at HSG
  go_wp2_with fail
  refine HSG.out.mono ?_
  rintro e w7 ⟨rfl, hW⟩
  have H7 := Lib.hid (H6.out.below hW)
  clear hW HSG y0 y1 y2 H6
  go_upto_region 12 with fail
  go_cut [105] (fun s wx => s = .bool false ∧ Hid (Four w wx w.heap.size w1.heap.size w2.heap.size w5.heap.size w6.heap.size (numV u) (numV v) (numV zp) (numV zq) n1 n2 n3 n4 A1 A2 A3 A4 l1 l2 l3 l4 k1 k2 k3 k4 x1 x2 x3 x4))
  case first =>
    have HTQ := Lib.hid (fun (W : World) (hW : Below w7.heap.size w7 W) => times_c2 1074 1074 w.heap.size 2098 (numV zq) (numV v) n4 n2 A4 A2 l4 l2 k4 k2 x4 x2 W (Nat.le_trans H7.out.bel.size hW.size) (H7.out.q.2.below hW) (H7.out.y.2.below hW) HBD.out.2.2.2 HBD.out.2.1 (by decide) (by decide) (by decide))
    refine wp_region_noPanic ?_
    refine wp_region_held_drew (S := (fun wx => Four w wx w.heap.size w1.heap.size w2.heap.size w5.heap.size w6.heap.size (numV u) (numV v) (numV zp) (numV zq) n1 n2 n3 n4 A1 A2 A3 A4 l1 l2 l3 l4 k1 k2 k3 k4 x1 x2 x3 x4)) (by kernel_rfl) (H7.out.below (by repeat (first | exact Below.refl _ _ | (with_reducible apply below_drewN) | (with_reducible apply Below.drew)))) (fun hHeld => ?_)
    change wpAnyH _ _ _ _ _ 24 _ _ _
    refine wpAnyH_take (i := 0) (oi := ?rgO0) (v := ?rgV0) ?rgI0 (by kernel_rfl) (by kernel_rfl) (by kernel_rfl) ?rgQ0 (Or.inl ⟨?rgW0, ?rgY0⟩) hHeld ?rgR0
    case rgI0 => (simp only [List.getElem?_toArray, List.getElem?_cons_succ, List.getElem?_cons_zero]; exact rfl)
    case rgQ0 => exact fun _ _ _ h => h
    case rgW0 => kernel_rfl
    case rgY0 => (intro W hSw; clear hSw; go_simp; try with_reducible rfl)
    try simp only [Act.put, List.setIfInBounds_toArray, List.set_cons_zero, List.set_cons_succ]
    refine wpAnyH_take (i := 1) (oi := ?rgO1) (v := ?rgV1) ?rgI1 (by kernel_rfl) (by kernel_rfl) (by kernel_rfl) ?rgQ1 (Or.inl ⟨?rgW1, ?rgY1⟩) hHeld ?rgR1
    case rgI1 => (simp only [List.getElem?_toArray, List.getElem?_cons_succ, List.getElem?_cons_zero]; exact rfl)
    case rgQ1 => exact fun _ _ _ h => h
    case rgW1 => kernel_rfl
    case rgY1 => (intro W hSw; clear hSw; go_simp; try with_reducible rfl)
    try simp only [Act.put, List.setIfInBounds_toArray, List.set_cons_zero, List.set_cons_succ]
    refine wpAnyH_take (i := 2) (oi := ?rgO2) (v := undef) ?rgI2 (by kernel_rfl) (by kernel_rfl) (by kernel_rfl) ?rgQ2 (Or.inr ⟨?rgW2, rfl⟩) hHeld ?rgR2
    case rgI2 => (simp only [List.getElem?_toArray, List.getElem?_cons_succ, List.getElem?_cons_zero]; exact rfl)
    case rgQ2 => exact fun _ _ _ h => h
    case rgW2 => kernel_rfl
    try simp only [Act.put, List.setIfInBounds_toArray, List.set_cons_zero, List.set_cons_succ]
    refine wpAnyH_take (i := 3) (oi := ?rgO3) (v := undef) ?rgI3 (by kernel_rfl) (by kernel_rfl) (by kernel_rfl) ?rgQ3 (Or.inr ⟨?rgW3, rfl⟩) hHeld ?rgR3
    case rgI3 => (simp only [List.getElem?_toArray, List.getElem?_cons_succ, List.getElem?_cons_zero]; exact rfl)
    case rgQ3 => exact fun _ _ _ h => h
    case rgW3 => kernel_rfl
    try simp only [Act.put, List.setIfInBounds_toArray, List.set_cons_zero, List.set_cons_succ]
    refine wpAnyH_take (i := 4) (oi := ?rgO4) (v := undef) ?rgI4 (by kernel_rfl) (by kernel_rfl) (by kernel_rfl) ?rgQ4 (Or.inr ⟨?rgW4, rfl⟩) hHeld ?rgR4
    case rgI4 => (simp only [List.getElem?_toArray, List.getElem?_cons_succ, List.getElem?_cons_zero]; exact rfl)
    case rgQ4 => exact fun _ _ _ h => h
    case rgW4 => kernel_rfl
    try simp only [Act.put, List.setIfInBounds_toArray, List.set_cons_zero, List.set_cons_succ]
    refine wpAnyH_take (i := 5) (oi := ?rgO5) (v := undef) ?rgI5 (by kernel_rfl) (by kernel_rfl) (by kernel_rfl) ?rgQ5 (Or.inr ⟨?rgW5, rfl⟩) hHeld ?rgR5
    case rgI5 => (simp only [List.getElem?_toArray, List.getElem?_cons_succ, List.getElem?_cons_zero]; exact rfl)
    case rgQ5 => exact fun _ _ _ h => h
    case rgW5 => kernel_rfl
    try simp only [Act.put, List.setIfInBounds_toArray, List.set_cons_zero, List.set_cons_succ]
    refine wpAnyH_take (i := 6) (oi := ?rgO6) (v := undef) ?rgI6 (by kernel_rfl) (by kernel_rfl) (by kernel_rfl) ?rgQ6 (Or.inr ⟨?rgW6, rfl⟩) hHeld ?rgR6
    case rgI6 => (simp only [List.getElem?_toArray, List.getElem?_cons_succ, List.getElem?_cons_zero]; exact rfl)
    case rgQ6 => exact fun _ _ _ h => h
    case rgW6 => kernel_rfl
    try simp only [Act.put, List.setIfInBounds_toArray, List.set_cons_zero, List.set_cons_succ]
    refine wpAnyH_take (i := 7) (oi := ?rgO7) (v := undef) ?rgI7 (by kernel_rfl) (by kernel_rfl) (by kernel_rfl) ?rgQ7 (Or.inr ⟨?rgW7, rfl⟩) hHeld ?rgR7
    case rgI7 => (simp only [List.getElem?_toArray, List.getElem?_cons_succ, List.getElem?_cons_zero]; exact rfl)
    case rgQ7 => exact fun _ _ _ h => h
    case rgW7 => kernel_rfl
    try simp only [Act.put, List.setIfInBounds_toArray, List.set_cons_zero, List.set_cons_succ]
    refine wpAnyH_take (i := 8) (oi := ?rgO8) (v := undef) ?rgI8 (by kernel_rfl) (by kernel_rfl) (by kernel_rfl) ?rgQ8 (Or.inr ⟨?rgW8, rfl⟩) hHeld ?rgR8
    case rgI8 => (simp only [List.getElem?_toArray, List.getElem?_cons_succ, List.getElem?_cons_zero]; exact rfl)
    case rgQ8 => exact fun _ _ _ h => h
    case rgW8 => kernel_rfl
    try simp only [Act.put, List.setIfInBounds_toArray, List.set_cons_zero, List.set_cons_succ]
    refine wpAnyH_take (i := 9) (oi := ?rgO9) (v := undef) ?rgI9 (by kernel_rfl) (by kernel_rfl) (by kernel_rfl) ?rgQ9 (Or.inr ⟨?rgW9, rfl⟩) hHeld ?rgR9
    case rgI9 => (simp only [List.getElem?_toArray, List.getElem?_cons_succ, List.getElem?_cons_zero]; exact rfl)
    case rgQ9 => exact fun _ _ _ h => h
    case rgW9 => kernel_rfl
    try simp only [Act.put, List.setIfInBounds_toArray, List.set_cons_zero, List.set_cons_succ]
    refine wpAnyH_take (i := 10) (oi := ?rgO10) (v := ?rgV10) ?rgI10 (by kernel_rfl) (by kernel_rfl) (by kernel_rfl) ?rgQ10 (Or.inl ⟨?rgW10, ?rgY10⟩) hHeld ?rgR10
    case rgI10 => (simp only [List.getElem?_toArray, List.getElem?_cons_succ, List.getElem?_cons_zero]; exact rfl)
    case rgQ10 => exact fun _ _ _ h => h
    case rgW10 => kernel_rfl
    case rgY10 => (intro W hSw; clear hSw; go_simp; try with_reducible rfl)
    try simp only [Act.put, List.setIfInBounds_toArray, List.set_cons_zero, List.set_cons_succ]
    refine wpAnyH_take (i := 11) (oi := ?rgO11) (v := ?rgV11) ?rgI11 (by kernel_rfl) (by kernel_rfl) (by kernel_rfl) ?rgQ11 (Or.inl ⟨?rgW11, ?rgY11⟩) hHeld ?rgR11
    case rgI11 => (simp only [List.getElem?_toArray, List.getElem?_cons_succ, List.getElem?_cons_zero]; exact rfl)
    case rgQ11 => exact fun _ _ _ h => h
    case rgW11 => kernel_rfl
    case rgY11 => (intro W hSw; clear hSw; go_simp; try with_reducible rfl)
    try simp only [Act.put, List.setIfInBounds_toArray, List.set_cons_zero, List.set_cons_succ]
    refine wpAnyH_take (i := 12) (oi := ?rgO12) (v := ?rgV12) ?rgI12 (by kernel_rfl) (by kernel_rfl) (by kernel_rfl) ?rgQ12 (Or.inl ⟨?rgW12, ?rgY12⟩) hHeld ?rgR12
    case rgI12 => (simp only [List.getElem?_toArray, List.getElem?_cons_succ, List.getElem?_cons_zero]; exact rfl)
    case rgQ12 => exact fun _ _ _ h => h
    case rgW12 => kernel_rfl
    case rgY12 => (intro W hSw; clear hSw; go_simp; try with_reducible rfl)
    try simp only [Act.put, List.setIfInBounds_toArray, List.set_cons_zero, List.set_cons_succ]
    refine wpAnyH_take (i := 13) (oi := ?rgO13) (v := ?rgV13) ?rgI13 (by kernel_rfl) (by kernel_rfl) (by kernel_rfl) ?rgQ13 (Or.inl ⟨?rgW13, ?rgY13⟩) hHeld ?rgR13
    case rgI13 => (simp only [List.getElem?_toArray, List.getElem?_cons_succ, List.getElem?_cons_zero]; exact rfl)
    case rgQ13 => exact fun _ _ _ h => h
    case rgW13 => kernel_rfl
    case rgY13 => (intro W hSw; clear hSw; go_simp; try with_reducible rfl)
    try simp only [Act.put, List.setIfInBounds_toArray, List.set_cons_zero, List.set_cons_succ]
    refine wpAnyH_take (i := 14) (oi := ?rgO14) (v := ?rgV14) ?rgI14 (by kernel_rfl) (by kernel_rfl) (by kernel_rfl) ?rgQ14 (Or.inl ⟨?rgW14, ?rgY14⟩) hHeld ?rgR14
    case rgI14 => (simp only [List.getElem?_toArray, List.getElem?_cons_succ, List.getElem?_cons_zero]; exact rfl)
    case rgQ14 => exact fun _ _ _ h => h
    case rgW14 => kernel_rfl
    case rgY14 => (intro W hSw; clear hSw; go_simp; try with_reducible rfl)
    try simp only [Act.put, List.setIfInBounds_toArray, List.set_cons_zero, List.set_cons_succ]
    refine wpAnyH_take (i := 15) (oi := ?rgO15) (v := ?rgV15) ?rgI15 (by kernel_rfl) (by kernel_rfl) (by kernel_rfl) ?rgQ15 (Or.inl ⟨?rgW15, ?rgY15⟩) hHeld ?rgR15
    case rgI15 => (simp only [List.getElem?_toArray, List.getElem?_cons_succ, List.getElem?_cons_zero]; exact rfl)
    case rgQ15 => exact fun _ _ _ h => h
    case rgW15 => kernel_rfl
    case rgY15 => (intro W hSw; obtain ⟨c0, c1, c2⟩ := hSw.q.cells; go_simp; try with_reducible rfl)
    try simp only [Act.put, List.setIfInBounds_toArray, List.set_cons_zero, List.set_cons_succ]
    refine wpAnyH_take (i := 16) (oi := ?rgO16) (v := ?rgV16) ?rgI16 (by kernel_rfl) (by kernel_rfl) (by kernel_rfl) ?rgQ16 (Or.inl ⟨?rgW16, ?rgY16⟩) hHeld ?rgR16
    case rgI16 => (simp only [List.getElem?_toArray, List.getElem?_cons_succ, List.getElem?_cons_zero]; exact rfl)
    case rgQ16 => exact fun _ _ _ h => h
    case rgW16 => kernel_rfl
    case rgY16 => (intro W hSw; obtain ⟨c0, c1, c2⟩ := hSw.y.cells; go_simp; try with_reducible rfl)
    try simp only [Act.put, List.setIfInBounds_toArray, List.set_cons_zero, List.set_cons_succ]
    refine wpAnyH_take (i := 18) (oi := ?rgO18) (v := ?rgV18) ?rgI18 (by kernel_rfl) (by kernel_rfl) (by kernel_rfl) ?rgQ18 (Or.inl ⟨?rgW18, ?rgY18⟩) hHeld ?rgR18
    case rgI18 => (simp only [List.getElem?_toArray, List.getElem?_cons_succ, List.getElem?_cons_zero]; exact rfl)
    case rgQ18 => exact fun _ _ _ h => h
    case rgW18 => kernel_rfl
    case rgY18 => (intro W hSw; obtain ⟨c0, c1, c2⟩ := hSw.x.cells; go_simp; try with_reducible rfl)
    try simp only [Act.put, List.setIfInBounds_toArray, List.set_cons_zero, List.set_cons_succ]
    refine wpAnyH_ready (rs := [17]) (by kernel_rfl) (by simp) ?_
    refine AllReadyH.cons (o := ?rgO17) ?rgI17 (fun K hK => ?rgR17) AllReadyH.nil
    case rgI17 => (simp only [List.getElem?_toArray, List.getElem?_cons_succ, List.getElem?_cons_zero]; exact rfl)
    rw [if_pos (by kernel_rfl)]
    go_simp
    refine (HTQ.out _ (by repeat (first | exact Below.refl _ _ | (with_reducible apply below_drewN) | (with_reducible apply Below.drew)))).mono ?_
    rintro e v3 ⟨n6, A6, l6, k6, x6, rfl, hR, hW⟩
    have hb : Below w7.heap.size w7 v3 := Below.trans (by repeat (first | exact Below.refl _ _ | (with_reducible apply below_drewN) | (with_reducible apply Below.drew))) hW
    have E3 := Lib.hid (H7.out.below hb)
    have R3 := Lib.hid hR
    clear hR hW hb HTQ
    have HCQ := Lib.hid (fun (W : World) (hW : Below v3.heap.size v3 W) => cmp_c 2148 w.heap.size 5000 (numV zq * numV v) (numV u * ((2 ^ 1074 : Nat) : Int)) n6 n1 A6 A1 l6 l1 k6 k1 x6 x1 W (Nat.le_trans E3.out.bel.size hW.size) (R3.out.below hW) ((E3.out.x.2.below hW).raise 1074) (prod_bd HBD.out.2.2.2 HBD.out.2.1) (raise_bd HBD.out.1) (by decide) (by decide)); rw [HT2.out] at HCQ
    go_wp2_with fail
    clear hHeld
    refine hK.out _ _ E3.out (fun hHeld => ?_)
    clear hK K
    try simp only [Act.put, List.setIfInBounds_toArray, List.set_cons_zero, List.set_cons_succ]
    refine wpAnyH_ready (rs := [19]) (by kernel_rfl) (by simp) ?_
    refine AllReadyH.cons (o := ?rgO19) ?rgI19 (fun K hK => ?rgR19) AllReadyH.nil
    case rgI19 => (simp only [List.getElem?_toArray, List.getElem?_cons_succ, List.getElem?_cons_zero]; exact rfl)
    rw [if_pos (by kernel_rfl)]
    go_simp
    refine (HCQ.out _ (by repeat (first | exact Below.refl _ _ | (with_reducible apply below_drewN) | (with_reducible apply Below.drew)))).mono ?_
    rintro e v4 ⟨rfl, hW⟩
    have hb : Below v3.heap.size v3 v4 := Below.trans (by repeat (first | exact Below.refl _ _ | (with_reducible apply below_drewN) | (with_reducible apply Below.drew))) hW
    have E4 := Lib.hid (E3.out.below hb)
    clear hW hb HCQ
    go_wp2_with fail
    clear hHeld
    refine hK.out _ _ E4.out (fun hHeld => ?_)
    clear hK K
    try simp only [Act.put, List.setIfInBounds_toArray, List.set_cons_zero, List.set_cons_succ]
    refine wpAnyH_take (i := 20) (oi := ?rgO20) (v := ?rgV20) ?rgI20 (by kernel_rfl) (by kernel_rfl) (by kernel_rfl) ?rgQ20 (Or.inl ⟨?rgW20, ?rgY20⟩) hHeld ?rgR20
    case rgI20 => (simp only [List.getElem?_toArray, List.getElem?_cons_succ, List.getElem?_cons_zero]; exact rfl)
    case rgQ20 => exact fun _ _ _ h => h
    case rgW20 => kernel_rfl
    case rgY20 => (intro W hSw; clear hSw; go_simp; try with_reducible rfl)
    try simp only [Act.put, List.setIfInBounds_toArray, List.set_cons_zero, List.set_cons_succ]
    refine wpAnyH_take (i := 21) (oi := ?rgO21) (v := ?rgV21) ?rgI21 (by kernel_rfl) (by kernel_rfl) (by kernel_rfl) ?rgQ21 (Or.inl ⟨?rgW21, ?rgY21⟩) hHeld ?rgR21
    case rgI21 => (simp only [List.getElem?_toArray, List.getElem?_cons_succ, List.getElem?_cons_zero]; exact rfl)
    case rgQ21 => exact fun _ _ _ h => h
    case rgW21 => kernel_rfl
    case rgY21 => (intro W hSw; clear hSw; go_simp; try with_reducible rfl)
    try simp only [Act.put, List.setIfInBounds_toArray, List.set_cons_zero, List.set_cons_succ]
    refine wpAnyH_take (i := 22) (oi := ?rgO22) (v := ?rgV22) ?rgI22 (by kernel_rfl) (by kernel_rfl) (by kernel_rfl) ?rgQ22 (Or.inl ⟨?rgW22, ?rgY22⟩) hHeld ?rgR22
    case rgI22 => (simp only [List.getElem?_toArray, List.getElem?_cons_succ, List.getElem?_cons_zero]; exact rfl)
    case rgQ22 => exact fun _ _ _ h => h
    case rgW22 => kernel_rfl
    case rgY22 => (intro W hSw; clear hSw; go_simp; try with_reducible rfl)
    try simp only [Act.put, List.setIfInBounds_toArray, List.set_cons_zero, List.set_cons_succ]
    refine wpAnyH_take (i := 23) (oi := ?rgO23) (v := ?rgV23) ?rgI23 (by kernel_rfl) (by kernel_rfl) (by kernel_rfl) ?rgQ23 (Or.inl ⟨?rgW23, ?rgY23⟩) hHeld ?rgR23
    case rgI23 => (simp only [List.getElem?_toArray, List.getElem?_cons_succ, List.getElem?_cons_zero]; exact rfl)
    case rgQ23 => exact fun _ _ _ h => h
    case rgW23 => kernel_rfl
    case rgY23 => (intro W hSw; clear hSw; go_simp; try with_reducible rfl)
    try simp only [Act.put, List.setIfInBounds_toArray, List.set_cons_zero, List.set_cons_succ]
    refine wpAnyH_done (by kernel_rfl) ?_ _
    refine NoPanic.normal ?_
    go_wp2_with fail
    go_meet
    exact ⟨rfl, E4⟩
  case rest =>
    obtain ⟨rfl, hEn⟩ := hcut
    obtain ⟨w8, rfl⟩ : ∃ wo : World, wo = wc := ⟨_, rfl⟩
    go_wp2_with fail
    refine (started_calls _).mono ?_
    rintro e wz ⟨rfl, hW⟩
    have HZ := Lib.hid (below_next hEn.out.bel hW)
    clear hW
    go_wp2
    go_ret
    exact ⟨rfl, HZ.out⟩
end Go.Proofs.YtfgdmiigmcnmpaaGreatFmt
