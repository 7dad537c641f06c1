import Derived.Test.YtfgdmiigmcnmpaaGreatFmtJ34
set_option linter.unusedVariables false
set_option linter.unusedSimpArgs false
namespace Go.Proofs.YtfgdmiigmcnmpaaGreatFmt
open Go.RowKit
attribute [local go_sem ↓] Go.wp_at_zero Go.wp_at_succ

/-! ### RoundShares, the walks -/
set_option exponentiation.threshold 6000 in
set_option maxHeartbeats 8000000 in
set_option maxRecDepth 100000 in
theorem shares_both (u v zp zq : Nat) (s : Int) (o0 : Option Nat) (hu : u < 18446744073709551616) (hv : v < 18446744073709551616) (hf : fin u = true) (hg : fin v = true) (hF : ShareF u v zp zq true true s o0) (hs : Int.sign (numV v) = s)
    (hd2 : ∀ W, Calls Tryz.prog 9 #[.int .i64 2, .float .f64 u, .float .f64 v] W fun e w' => e = .returned (.tuple #[.float .f64 zp, .bool true]) ∧ Below W.heap.size W w')
    (hd1 : ∀ W, Calls Tryz.prog 9 #[.int .i64 1, .float .f64 u, .float .f64 v] W fun e w' => e = .returned (.tuple #[.float .f64 zq, .bool true]) ∧ Below W.heap.size W w')
    (hd0 : ∀ W, Calls Tryz.prog 9 #[.int .i64 0, .float .f64 u, .float .f64 v] W fun e w' => e = .returned (.tuple #[.float .f64 (o0.getD 0), .bool o0.isSome]) ∧ Below W.heap.size W w') (w : World) :
    Calls Tryz.prog 3 #[.float .f64 u, .float .f64 v] w fun e w' => e = .returned (.bool true) ∧ Below w.heap.size w w' := by
  have HB := Lib.hid (And.intro hu hv)
  have HBD := Lib.hid (And.intro (numV_bd hu) (And.intro (numV_bd hv) (And.intro (numV_bd hF.up) (numV_bd hF.uq))))
  have HF := Lib.hid hF
  have HS := Lib.hid hs
  have HD2 := Lib.hid hd2
  have HD1 := Lib.hid hd1
  have HD0 := Lib.hid hd0
  obtain ⟨t1, ht1⟩ : ∃ t, Int.sign (numV zp * numV v - numV u * ((2 ^ 1074 : Nat) : Int)) = t := ⟨_, rfl⟩
  obtain ⟨t2, ht2⟩ : ∃ t, Int.sign (numV zq * numV v - numV u * ((2 ^ 1074 : Nat) : Int)) = t := ⟨_, rfl⟩
  have hl1 : ¬ (0 < s * t1) := by rw [← ht1]; exact hF.lo rfl
  have hl2 : ¬ (s * t2 < 0) := by rw [← ht2]; exact hF.hi rfl
  have hs0 : (s == 0) = false := by rcases hF.s1 with h | h <;> rw [h] <;> rfl
  have HT1 := Lib.hid ht1
  have HT2 := Lib.hid ht2
  have HBO := Lib.hid hF.both
  rw [ht1, ht2] at HBO
  have hvv1 : IntKind.i64.wrap (s * t1) = s * t1 := wrap_one' hF.s1 (by rw [← ht1]; exact sign_in _)
  have hvv2 : IntKind.i64.wrap (s * t2) = s * t2 := wrap_one' hF.s1 (by rw [← ht2]; exact sign_in _)
  obtain ⟨st1, hst1⟩ : ∃ t, s * t1 = t := ⟨_, rfl⟩
  obtain ⟨st2, hst2⟩ : ∃ t, s * t2 = t := ⟨_, rfl⟩
  have hv1 := hvv1.trans hst1
  have hv2 := hvv2.trans hst2
  have hq1 : decide (0 < st1) = false := decide_eq_false (by rw [← hst1]; exact hl1)
  have hq2 : decide (st2 < 0) = false := decide_eq_false (by rw [← hst2]; exact hl2)
  clear hl1 hl2 hvv1 hvv2 hst1 hst2
  clear hu hv hF hs hd2 hd1 hd0 ht1 ht2
  go_enter Tryz.func3, Tryz.ntmps3
  go_wp2_with fail
  refine (lnum_calls u w.heap.size w HB.out.1 (Nat.le_refl _)).mono ?_
  rintro e w1 ⟨n1, A1, l1, k1, x1, rfl, hR, hW⟩
  rw [hf]
  have hB := below_new (Below.refl w1.heap.size w1) (.cells #[.bool n1, .slice A1 l1 k1, .int .i64 x1] 25)
  have H1 := Lib.hid (And.intro (NB.new hR) (below_next hW hB))
  clear hR hW hB hf
  go_wp2_with fail
  refine (lnum_calls v w.heap.size _ HB.out.2 H1.out.2.size).mono ?_
  rintro e w2 ⟨n2, A2, l2, k2, x2, rfl, hR, hW⟩
  rw [hg]
  have hB := below_new (Below.refl w2.heap.size w2) (.cells #[.bool n2, .slice A2 l2 k2, .int .i64 x2] 25)
  have hb1 := below_next hW hB
  have H2 := Lib.hid (And.intro (H1.out.1.below hb1) (And.intro (NB.new hR) (below_next H1.out.2 hb1)))
  clear hR hW hB hb1 H1 hg
  go_wp2_with fail
  refine (HD2.out _).mono ?_
  rintro e w3 ⟨rfl, hW⟩
  have H3 := Lib.hid (And.intro (H2.out.1.below hW) (And.intro (H2.out.2.1.below hW) (below_next H2.out.2.2 hW)))
  clear hW H2
  go_wp2_with fail
  refine (HD1.out _).mono ?_
  rintro e w4 ⟨rfl, hW⟩
  have H4 := Lib.hid (And.intro (H3.out.1.below hW) (And.intro (H3.out.2.1.below hW) (below_next H3.out.2.2 hW)))
  clear hW H3
  obtain ⟨y0, y1, y2⟩ := H4.out.2.1.cells
  have HSG := Lib.hid (sign_c 1074 w.heap.size _ n2 A2 l2 k2 x2 w4 H4.out.2.1.2)
  rw [HS.out] at HSG
  go_wp2_with fail
  refine HSG.out.mono ?_
  rintro e w4b ⟨rfl, hW⟩
  have H4b := Lib.hid (And.intro (H4.out.1.below hW) (And.intro (H4.out.2.1.below hW) (below_next H4.out.2.2 hW)))
  clear hW H4 HSG y0 y1 y2
  go_wp2_with fail
  refine (lnum_calls zp w.heap.size w4b HF.out.up H4b.out.2.2.size).mono ?_
  rintro e w5 ⟨n3, A3, l3, k3, x3, rfl, hR, hW⟩
  have hB := below_new (Below.refl w5.heap.size w5) (.cells #[.bool n3, .slice A3 l3 k3, .int .i64 x3] 25)
  have hb1 := below_next hW hB
  have H5 := Lib.hid (And.intro (H4b.out.1.below hb1) (And.intro (H4b.out.2.1.below hb1) (And.intro (NB.new hR) (below_next H4b.out.2.2 hb1))))
  clear hR hW hB hb1 H4b
  go_wp2_with fail
  refine (lnum_calls zq w.heap.size _ HF.out.uq H5.out.2.2.2.size).mono ?_
  rintro e w6 ⟨n4, A4, l4, k4, x4, rfl, hR, hW⟩
  have hB := below_new (Below.refl w6.heap.size w6) (.cells #[.bool n4, .slice A4 l4 k4, .int .i64 x4] 25)
  have hb1 := below_next hW hB
  have H6 : Hid (Four w (w6.alloc (.cells #[.bool n4, .slice A4 l4 k4, .int .i64 x4] 25)) w.heap.size w1.heap.size w2.heap.size w5.heap.size w6.heap.size (numV u) (numV v) (numV zp) (numV zq) n1 n2 n3 n4 A1 A2 A3 A4 l1 l2 l3 l4 k1 k2 k3 k4 x1 x2 x3 x4) := ⟨H5.out.1.below hb1, H5.out.2.1.below hb1, H5.out.2.2.1.below hb1, NB.new hR, below_next H5.out.2.2.2 hb1⟩
  clear hR hW hB hb1 H5
  obtain ⟨y0, y1, y2⟩ := H6.out.y.cells
  have HSG := Lib.hid (sign_c 1074 w.heap.size _ n2 A2 l2 k2 x2 _ H6.out.y.2)
  rw [HS.out] at HSG
  go_wp2_with fail
  refine HSG.out.mono ?_
  rintro e w7 ⟨rfl, hW⟩
  have H7 := Lib.hid (H6.out.below hW)
  clear hW HSG y0 y1 y2 H6
  go_upto_region 12 with fail
  go_cut [105] (fun s wx => s = .bool false ∧ Hid (Four w wx w.heap.size w1.heap.size w2.heap.size w5.heap.size w6.heap.size (numV u) (numV v) (numV zp) (numV zq) n1 n2 n3 n4 A1 A2 A3 A4 l1 l2 l3 l4 k1 k2 k3 k4 x1 x2 x3 x4))
  case first =>
    have HTP := Lib.hid (fun (W : World) (hW : Below w7.heap.size w7 W) => times_c2 1074 1074 w.heap.size 2098 (numV zp) (numV v) n3 n2 A3 A2 l3 l2 k3 k2 x3 x2 W (Nat.le_trans H7.out.bel.size hW.size) (H7.out.p.2.below hW) (H7.out.y.2.below hW) HBD.out.2.2.1 HBD.out.2.1 (by decide) (by decide) (by decide))
    refine wp_region_noPanic ?_
    refine wp_region_held_drew (S := (fun wx => Four w wx w.heap.size w1.heap.size w2.heap.size w5.heap.size w6.heap.size (numV u) (numV v) (numV zp) (numV zq) n1 n2 n3 n4 A1 A2 A3 A4 l1 l2 l3 l4 k1 k2 k3 k4 x1 x2 x3 x4)) (by kernel_rfl) (H7.out.below (by repeat (first | exact Below.refl _ _ | (with_reducible apply below_drewN) | (with_reducible apply Below.drew)))) (fun hHeld => ?_)
    change wpAnyH _ _ _ _ _ 24 _ _ _
    refine wpAnyH_take (i := 0) (oi := ?rgO0) (v := ?rgV0) ?rgI0 (by kernel_rfl) (by kernel_rfl) (by kernel_rfl) ?rgQ0 (Or.inl ⟨?rgW0, ?rgY0⟩) hHeld ?rgR0
    case rgI0 => (simp only [List.getElem?_toArray, List.getElem?_cons_succ, List.getElem?_cons_zero]; exact rfl)
    case rgQ0 => exact fun _ _ _ h => h
    case rgW0 => kernel_rfl
    case rgY0 => (intro W hSw; clear hSw; go_simp; try with_reducible rfl)
    try simp only [Act.put, List.setIfInBounds_toArray, List.set_cons_zero, List.set_cons_succ]
    refine wpAnyH_take (i := 1) (oi := ?rgO1) (v := ?rgV1) ?rgI1 (by kernel_rfl) (by kernel_rfl) (by kernel_rfl) ?rgQ1 (Or.inl ⟨?rgW1, ?rgY1⟩) hHeld ?rgR1
    case rgI1 => (simp only [List.getElem?_toArray, List.getElem?_cons_succ, List.getElem?_cons_zero]; exact rfl)
    case rgQ1 => exact fun _ _ _ h => h
    case rgW1 => kernel_rfl
    case rgY1 => (intro W hSw; clear hSw; go_simp; try with_reducible rfl)
    try simp only [Act.put, List.setIfInBounds_toArray, List.set_cons_zero, List.set_cons_succ]
    refine wpAnyH_take (i := 2) (oi := ?rgO2) (v := ?rgV2) ?rgI2 (by kernel_rfl) (by kernel_rfl) (by kernel_rfl) ?rgQ2 (Or.inl ⟨?rgW2, ?rgY2⟩) hHeld ?rgR2
    case rgI2 => (simp only [List.getElem?_toArray, List.getElem?_cons_succ, List.getElem?_cons_zero]; exact rfl)
    case rgQ2 => exact fun _ _ _ h => h
    case rgW2 => kernel_rfl
    case rgY2 => (intro W hSw; clear hSw; go_simp; try with_reducible rfl)
    try simp only [Act.put, List.setIfInBounds_toArray, List.set_cons_zero, List.set_cons_succ]
    refine wpAnyH_take (i := 3) (oi := ?rgO3) (v := ?rgV3) ?rgI3 (by kernel_rfl) (by kernel_rfl) (by kernel_rfl) ?rgQ3 (Or.inl ⟨?rgW3, ?rgY3⟩) hHeld ?rgR3
    case rgI3 => (simp only [List.getElem?_toArray, List.getElem?_cons_succ, List.getElem?_cons_zero]; exact rfl)
    case rgQ3 => exact fun _ _ _ h => h
    case rgW3 => kernel_rfl
    case rgY3 => (intro W hSw; obtain ⟨c0, c1, c2⟩ := hSw.p.cells; go_simp; try with_reducible rfl)
    try simp only [Act.put, List.setIfInBounds_toArray, List.set_cons_zero, List.set_cons_succ]
    refine wpAnyH_take (i := 4) (oi := ?rgO4) (v := ?rgV4) ?rgI4 (by kernel_rfl) (by kernel_rfl) (by kernel_rfl) ?rgQ4 (Or.inl ⟨?rgW4, ?rgY4⟩) hHeld ?rgR4
    case rgI4 => (simp only [List.getElem?_toArray, List.getElem?_cons_succ, List.getElem?_cons_zero]; exact rfl)
    case rgQ4 => exact fun _ _ _ h => h
    case rgW4 => kernel_rfl
    case rgY4 => (intro W hSw; obtain ⟨c0, c1, c2⟩ := hSw.y.cells; go_simp; try with_reducible rfl)
    try simp only [Act.put, List.setIfInBounds_toArray, List.set_cons_zero, List.set_cons_succ]
    refine wpAnyH_take (i := 6) (oi := ?rgO6) (v := ?rgV6) ?rgI6 (by kernel_rfl) (by kernel_rfl) (by kernel_rfl) ?rgQ6 (Or.inl ⟨?rgW6, ?rgY6⟩) hHeld ?rgR6
    case rgI6 => (simp only [List.getElem?_toArray, List.getElem?_cons_succ, List.getElem?_cons_zero]; exact rfl)
    case rgQ6 => exact fun _ _ _ h => h
    case rgW6 => kernel_rfl
    case rgY6 => (intro W hSw; obtain ⟨c0, c1, c2⟩ := hSw.x.cells; go_simp; try with_reducible rfl)
    try simp only [Act.put, List.setIfInBounds_toArray, List.set_cons_zero, List.set_cons_succ]
    refine wpAnyH_ready (rs := [5]) (by kernel_rfl) (by simp) ?_
    refine AllReadyH.cons (o := ?rgO5) ?rgI5 (fun K hK => ?rgR5) AllReadyH.nil
    case rgI5 => (simp only [List.getElem?_toArray, List.getElem?_cons_succ, List.getElem?_cons_zero]; exact rfl)
    rw [if_pos (by kernel_rfl)]
    go_simp
    refine (HTP.out _ (by repeat (first | exact Below.refl _ _ | (with_reducible apply below_drewN) | (with_reducible apply Below.drew)))).mono ?_
    rintro e v1 ⟨n5, A5, l5, k5, x5, rfl, hR, hW⟩
    have hb : Below w7.heap.size w7 v1 := Below.trans (by repeat (first | exact Below.refl _ _ | (with_reducible apply below_drewN) | (with_reducible apply Below.drew))) hW
    have E1 := Lib.hid (H7.out.below hb)
    have R1 := Lib.hid hR
    clear hR hW hb HTP
    have HCP := Lib.hid (fun (W : World) (hW : Below v1.heap.size v1 W) => cmp_c 2148 w.heap.size 5000 (numV zp * numV v) (numV u * ((2 ^ 1074 : Nat) : Int)) n5 n1 A5 A1 l5 l1 k5 k1 x5 x1 W (Nat.le_trans E1.out.bel.size hW.size) (R1.out.below hW) ((E1.out.x.2.below hW).raise 1074) (prod_bd HBD.out.2.2.1 HBD.out.2.1) (raise_bd HBD.out.1) (by decide) (by decide)); rw [HT1.out] at HCP
    go_wp2_with fail
    clear hHeld
    refine hK.out _ _ E1.out (fun hHeld => ?_)
    clear hK K
    try simp only [Act.put, List.setIfInBounds_toArray, List.set_cons_zero, List.set_cons_succ]
    refine wpAnyH_ready (rs := [7]) (by kernel_rfl) (by simp) ?_
    refine AllReadyH.cons (o := ?rgO7) ?rgI7 (fun K hK => ?rgR7) AllReadyH.nil
    case rgI7 => (simp only [List.getElem?_toArray, List.getElem?_cons_succ, List.getElem?_cons_zero]; exact rfl)
    rw [if_pos (by kernel_rfl)]
    go_simp
    refine (HCP.out _ (by repeat (first | exact Below.refl _ _ | (with_reducible apply below_drewN) | (with_reducible apply Below.drew)))).mono ?_
    rintro e v2 ⟨rfl, hW⟩
    have hb : Below v1.heap.size v1 v2 := Below.trans (by repeat (first | exact Below.refl _ _ | (with_reducible apply below_drewN) | (with_reducible apply Below.drew))) hW
    have E2 := Lib.hid (E1.out.below hb)
    clear hW hb HCP
    have HTQ := Lib.hid (fun (W : World) (hW : Below v2.heap.size v2 W) => times_c2 1074 1074 w.heap.size 2098 (numV zq) (numV v) n4 n2 A4 A2 l4 l2 k4 k2 x4 x2 W (Nat.le_trans E2.out.bel.size hW.size) (E2.out.q.2.below hW) (E2.out.y.2.below hW) HBD.out.2.2.2 HBD.out.2.1 (by decide) (by decide) (by decide))
    go_wp2_with fail
    clear hHeld
    refine hK.out _ _ E2.out (fun hHeld => ?_)
    clear hK K
    try simp only [Act.put, List.setIfInBounds_toArray, List.set_cons_zero, List.set_cons_succ]
    refine wpAnyH_take (i := 8) (oi := ?rgO8) (v := ?rgV8) ?rgI8 (by kernel_rfl) (by kernel_rfl) (by kernel_rfl) ?rgQ8 (Or.inl ⟨?rgW8, ?rgY8⟩) hHeld ?rgR8
    case rgI8 => (simp only [List.getElem?_toArray, List.getElem?_cons_succ, List.getElem?_cons_zero]; exact rfl)
    case rgQ8 => exact fun _ _ _ h => h
    case rgW8 => kernel_rfl
    case rgY8 => (intro W hSw; clear hSw; go_simp; try with_reducible rfl)
    try simp only [Act.put, List.setIfInBounds_toArray, List.set_cons_zero, List.set_cons_succ]
    refine wpAnyH_take (i := 9) (oi := ?rgO9) (v := ?rgV9) ?rgI9 (by kernel_rfl) (by kernel_rfl) (by kernel_rfl) ?rgQ9 (Or.inl ⟨?rgW9, ?rgY9⟩) hHeld ?rgR9
    case rgI9 => (simp only [List.getElem?_toArray, List.getElem?_cons_succ, List.getElem?_cons_zero]; exact rfl)
    case rgQ9 => exact fun _ _ _ h => h
    case rgW9 => kernel_rfl
    case rgY9 => (intro W hSw; clear hSw; go_simp; try with_reducible rfl)
    try simp only [Act.put, List.setIfInBounds_toArray, List.set_cons_zero, List.set_cons_succ]
    refine wpAnyH_take (i := 10) (oi := ?rgO10) (v := ?rgV10) ?rgI10 (by kernel_rfl) (by kernel_rfl) (by kernel_rfl) ?rgQ10 (Or.inl ⟨?rgW10, ?rgY10⟩) hHeld ?rgR10
    case rgI10 => (simp only [List.getElem?_toArray, List.getElem?_cons_succ, List.getElem?_cons_zero]; exact rfl)
    case rgQ10 => exact fun _ _ _ h => h
    case rgW10 => kernel_rfl
    case rgY10 => (intro W hSw; clear hSw; go_simp; try with_reducible rfl)
    try simp only [Act.put, List.setIfInBounds_toArray, List.set_cons_zero, List.set_cons_succ]
    refine wpAnyH_take (i := 11) (oi := ?rgO11) (v := ?rgV11) ?rgI11 (by kernel_rfl) (by kernel_rfl) (by kernel_rfl) ?rgQ11 (Or.inl ⟨?rgW11, ?rgY11⟩) hHeld ?rgR11
    case rgI11 => (simp only [List.getElem?_toArray, List.getElem?_cons_succ, List.getElem?_cons_zero]; exact rfl)
    case rgQ11 => exact fun _ _ _ h => h
    case rgW11 => kernel_rfl
    case rgY11 => (intro W hSw; clear hSw; go_simp; try with_reducible rfl)
    try simp only [Act.put, List.setIfInBounds_toArray, List.set_cons_zero, List.set_cons_succ]
    refine wpAnyH_take (i := 12) (oi := ?rgO12) (v := ?rgV12) ?rgI12 (by kernel_rfl) (by kernel_rfl) (by kernel_rfl) ?rgQ12 (Or.inl ⟨?rgW12, ?rgY12⟩) hHeld ?rgR12
    case rgI12 => (simp only [List.getElem?_toArray, List.getElem?_cons_succ, List.getElem?_cons_zero]; exact rfl)
    case rgQ12 => exact fun _ _ _ h => h
    case rgW12 => kernel_rfl
    case rgY12 => (intro W hSw; clear hSw; go_simp; try with_reducible rfl)
    try simp only [Act.put, List.setIfInBounds_toArray, List.set_cons_zero, List.set_cons_succ]
    refine wpAnyH_take (i := 13) (oi := ?rgO13) (v := ?rgV13) ?rgI13 (by kernel_rfl) (by kernel_rfl) (by kernel_rfl) ?rgQ13 (Or.inl ⟨?rgW13, ?rgY13⟩) hHeld ?rgR13
    case rgI13 => (simp only [List.getElem?_toArray, List.getElem?_cons_succ, List.getElem?_cons_zero]; exact rfl)
    case rgQ13 => exact fun _ _ _ h => h
    case rgW13 => kernel_rfl
    case rgY13 => (intro W hSw; clear hSw; go_simp; try with_reducible rfl)
    try simp only [Act.put, List.setIfInBounds_toArray, List.set_cons_zero, List.set_cons_succ]
    refine wpAnyH_take (i := 14) (oi := ?rgO14) (v := ?rgV14) ?rgI14 (by kernel_rfl) (by kernel_rfl) (by kernel_rfl) ?rgQ14 (Or.inl ⟨?rgW14, ?rgY14⟩) hHeld ?rgR14
    case rgI14 => (simp only [List.getElem?_toArray, List.getElem?_cons_succ, List.getElem?_cons_zero]; exact rfl)
    case rgQ14 => exact fun _ _ _ h => h
    case rgW14 => kernel_rfl
    case rgY14 => (intro W hSw; clear hSw; go_simp; try with_reducible rfl)
    try simp only [Act.put, List.setIfInBounds_toArray, List.set_cons_zero, List.set_cons_succ]
    refine wpAnyH_take (i := 15) (oi := ?rgO15) (v := ?rgV15) ?rgI15 (by kernel_rfl) (by kernel_rfl) (by kernel_rfl) ?rgQ15 (Or.inl ⟨?rgW15, ?rgY15⟩) hHeld ?rgR15
    case rgI15 => (simp only [List.getElem?_toArray, List.getElem?_cons_succ, List.getElem?_cons_zero]; exact rfl)
    case rgQ15 => exact fun _ _ _ h => h
    case rgW15 => kernel_rfl
    case rgY15 => (intro W hSw; obtain ⟨c0, c1, c2⟩ := hSw.q.cells; go_simp; try with_reducible rfl)
    try simp only [Act.put, List.setIfInBounds_toArray, List.set_cons_zero, List.set_cons_succ]
    refine wpAnyH_take (i := 16) (oi := ?rgO16) (v := ?rgV16) ?rgI16 (by kernel_rfl) (by kernel_rfl) (by kernel_rfl) ?rgQ16 (Or.inl ⟨?rgW16, ?rgY16⟩) hHeld ?rgR16
    case rgI16 => (simp only [List.getElem?_toArray, List.getElem?_cons_succ, List.getElem?_cons_zero]; exact rfl)
    case rgQ16 => exact fun _ _ _ h => h
    case rgW16 => kernel_rfl
    case rgY16 => (intro W hSw; obtain ⟨c0, c1, c2⟩ := hSw.y.cells; go_simp; try with_reducible rfl)
    try simp only [Act.put, List.setIfInBounds_toArray, List.set_cons_zero, List.set_cons_succ]
    refine wpAnyH_take (i := 18) (oi := ?rgO18) (v := ?rgV18) ?rgI18 (by kernel_rfl) (by kernel_rfl) (by kernel_rfl) ?rgQ18 (Or.inl ⟨?rgW18, ?rgY18⟩) hHeld ?rgR18
    case rgI18 => (simp only [List.getElem?_toArray, List.getElem?_cons_succ, List.getElem?_cons_zero]; exact rfl)
    case rgQ18 => exact fun _ _ _ h => h
    case rgW18 => kernel_rfl
    case rgY18 => (intro W hSw; obtain ⟨c0, c1, c2⟩ := hSw.x.cells; go_simp; try with_reducible rfl)
    try simp only [Act.put, List.setIfInBounds_toArray, List.set_cons_zero, List.set_cons_succ]
    refine wpAnyH_ready (rs := [17]) (by kernel_rfl) (by simp) ?_
    refine AllReadyH.cons (o := ?rgO17) ?rgI17 (fun K hK => ?rgR17) AllReadyH.nil
    case rgI17 => (simp only [List.getElem?_toArray, List.getElem?_cons_succ, List.getElem?_cons_zero]; exact rfl)
    rw [if_pos (by kernel_rfl)]
    go_simp
    refine (HTQ.out _ (by repeat (first | exact Below.refl _ _ | (with_reducible apply below_drewN) | (with_reducible apply Below.drew)))).mono ?_
    rintro e v3 ⟨n6, A6, l6, k6, x6, rfl, hR, hW⟩
    have hb : Below v2.heap.size v2 v3 := Below.trans (by repeat (first | exact Below.refl _ _ | (with_reducible apply below_drewN) | (with_reducible apply Below.drew))) hW
    have E3 := Lib.hid (E2.out.below hb)
    have R3 := Lib.hid hR
    clear hR hW hb HTQ
    have HCQ := Lib.hid (fun (W : World) (hW : Below v3.heap.size v3 W) => cmp_c 2148 w.heap.size 5000 (numV zq * numV v) (numV u * ((2 ^ 1074 : Nat) : Int)) n6 n1 A6 A1 l6 l1 k6 k1 x6 x1 W (Nat.le_trans E3.out.bel.size hW.size) (R3.out.below hW) ((E3.out.x.2.below hW).raise 1074) (prod_bd HBD.out.2.2.2 HBD.out.2.1) (raise_bd HBD.out.1) (by decide) (by decide)); rw [HT2.out] at HCQ
    go_wp2_with fail
    clear hHeld
    refine hK.out _ _ E3.out (fun hHeld => ?_)
    clear hK K
    try simp only [Act.put, List.setIfInBounds_toArray, List.set_cons_zero, List.set_cons_succ]
    refine wpAnyH_ready (rs := [19]) (by kernel_rfl) (by simp) ?_
    refine AllReadyH.cons (o := ?rgO19) ?rgI19 (fun K hK => ?rgR19) AllReadyH.nil
    case rgI19 => (simp only [List.getElem?_toArray, List.getElem?_cons_succ, List.getElem?_cons_zero]; exact rfl)
    rw [if_pos (by kernel_rfl)]
    go_simp
    refine (HCQ.out _ (by repeat (first | exact Below.refl _ _ | (with_reducible apply below_drewN) | (with_reducible apply Below.drew)))).mono ?_
    rintro e v4 ⟨rfl, hW⟩
    have hb : Below v3.heap.size v3 v4 := Below.trans (by repeat (first | exact Below.refl _ _ | (with_reducible apply below_drewN) | (with_reducible apply Below.drew))) hW
    have E4 := Lib.hid (E3.out.below hb)
    clear hW hb HCQ
    go_wp2_with fail
    clear hHeld
    refine hK.out _ _ E4.out (fun hHeld => ?_)
    clear hK K
    try simp only [Act.put, List.setIfInBounds_toArray, List.set_cons_zero, List.set_cons_succ]
    refine wpAnyH_take (i := 20) (oi := ?rgO20) (v := ?rgV20) ?rgI20 (by kernel_rfl) (by kernel_rfl) (by kernel_rfl) ?rgQ20 (Or.inl ⟨?rgW20, ?rgY20⟩) hHeld ?rgR20
    case rgI20 => (simp only [List.getElem?_toArray, List.getElem?_cons_succ, List.getElem?_cons_zero]; exact rfl)
    case rgQ20 => exact fun _ _ _ h => h
    case rgW20 => kernel_rfl
    case rgY20 => (intro W hSw; clear hSw; go_simp; try with_reducible rfl)
    try simp only [Act.put, List.setIfInBounds_toArray, List.set_cons_zero, List.set_cons_succ]
    refine wpAnyH_take (i := 21) (oi := ?rgO21) (v := ?rgV21) ?rgI21 (by kernel_rfl) (by kernel_rfl) (by kernel_rfl) ?rgQ21 (Or.inl ⟨?rgW21, ?rgY21⟩) hHeld ?rgR21
    case rgI21 => (simp only [List.getElem?_toArray, List.getElem?_cons_succ, List.getElem?_cons_zero]; exact rfl)
    case rgQ21 => exact fun _ _ _ h => h
    case rgW21 => kernel_rfl
    case rgY21 => (intro W hSw; clear hSw; go_simp; try with_reducible rfl)
    try simp only [Act.put, List.setIfInBounds_toArray, List.set_cons_zero, List.set_cons_succ]
    refine wpAnyH_take (i := 22) (oi := ?rgO22) (v := ?rgV22) ?rgI22 (by kernel_rfl) (by kernel_rfl) (by kernel_rfl) ?rgQ22 (Or.inl ⟨?rgW22, ?rgY22⟩) hHeld ?rgR22
    case rgI22 => (simp only [List.getElem?_toArray, List.getElem?_cons_succ, List.getElem?_cons_zero]; exact rfl)
    case rgQ22 => exact fun _ _ _ h => h
    case rgW22 => kernel_rfl
    case rgY22 => (intro W hSw; clear hSw; go_simp; try with_reducible rfl)
    try simp only [Act.put, List.setIfInBounds_toArray, List.set_cons_zero, List.set_cons_succ]
    refine wpAnyH_take (i := 23) (oi := ?rgO23) (v := ?rgV23) ?rgI23 (by kernel_rfl) (by kernel_rfl) (by kernel_rfl) ?rgQ23 (Or.inl ⟨?rgW23, ?rgY23⟩) hHeld ?rgR23
    case rgI23 => (simp only [List.getElem?_toArray, List.getElem?_cons_succ, List.getElem?_cons_zero]; exact rfl)
    case rgQ23 => exact fun _ _ _ h => h
    case rgW23 => kernel_rfl
    case rgY23 => (intro W hSw; clear hSw; go_simp; try with_reducible rfl)
    try simp only [Act.put, List.setIfInBounds_toArray, List.set_cons_zero, List.set_cons_succ]
    refine wpAnyH_done (by kernel_rfl) ?_ _
    refine NoPanic.normal ?_
    go_wp2_with fail
    go_meet
    exact ⟨rfl, E4⟩
  case rest =>
    obtain ⟨rfl, hEn⟩ := hcut
    obtain ⟨w8, rfl⟩ : ∃ wo : World, wo = wc := ⟨_, rfl⟩
    rcases HBO.out (by first | rfl | trivial) (by first | rfl | trivial) with he | ⟨he, hn, hqq, hm, hmm, hz1, hz2⟩
    · have he2 := bne_f' he
      clear HBO
      go_wp2_with fail
      refine (started_calls _).mono ?_
      rintro e wz ⟨rfl, hW⟩
      have HZ := Lib.hid (below_next hEn.out.bel hW)
      clear hW
      go_wp2
      go_ret
      exact ⟨rfl, HZ.out⟩
    · have he2 := bne_t' he
      have HNX := Lib.hid (fun W => rnext_calls 1 zp HF.out.up W)
      rw [hn] at HNX
      have HB0 := Lib.hid HD0.out
      rw [hm] at HB0
      obtain ⟨zm, hzm⟩ : ∃ z, o0.getD 0 = z := ⟨_, rfl⟩
      rw [hzm] at HB0 hmm
      clear hn hm hzm HBO
      go_wp2_with fail
      refine (HNX.out _).mono ?_
      rintro e w' ⟨rfl, rfl⟩
      unfold fRet2
      simp only [Option.getD_some, Option.isSome_some]
      go_wp2_with fail
      refine (HB0.out _).mono ?_
      rintro e w10 ⟨rfl, hW⟩
      have G0 := Lib.hid (hEn.out.below hW)
      clear hW hEn
      have HTP := Lib.hid (fun (W : World) (hW : Below w10.heap.size w10 W) => times_c2 1074 1074 w.heap.size 2098 (numV zp) (numV v) n3 n2 A3 A2 l3 l2 k3 k2 x3 x2 W (Nat.le_trans G0.out.bel.size hW.size) (G0.out.p.2.below hW) (G0.out.y.2.below hW) HBD.out.2.2.1 HBD.out.2.1 (by decide) (by decide) (by decide))
      have hz1' : (t1 != 0) = true := by simpa [bne] using hz1
      have hz2' : (t2 != 0) = true := by simpa [bne] using hz2
      rcases hmm with hm1 | ⟨hm1, hm2⟩
      · go_wp2_with fail
        refine wp_region_noPanic ?_
        refine wp_region_held_drew (S := (fun wx => Four w wx w.heap.size w1.heap.size w2.heap.size w5.heap.size w6.heap.size (numV u) (numV v) (numV zp) (numV zq) n1 n2 n3 n4 A1 A2 A3 A4 l1 l2 l3 l4 k1 k2 k3 k4 x1 x2 x3 x4)) (by kernel_rfl) (G0.out.below (by repeat (first | exact Below.refl _ _ | (with_reducible apply below_drewN) | (with_reducible apply Below.drew)))) (fun hHeld => ?_)
        change wpAnyH _ _ _ _ _ 39 _ _ _
        refine wpAnyH_take (i := 0) (oi := ?raO0) (v := ?raV0) ?raI0 (by kernel_rfl) (by kernel_rfl) (by kernel_rfl) ?raQ0 (Or.inl ⟨?raW0, ?raY0⟩) hHeld ?raR0
        case raI0 => (simp only [List.getElem?_toArray, List.getElem?_cons_succ, List.getElem?_cons_zero]; exact rfl)
        case raQ0 => exact fun _ _ _ h => h
        case raW0 => kernel_rfl
        case raY0 => (intro W hSw; clear hSw; go_simp; try with_reducible rfl)
        try simp only [Act.put, List.setIfInBounds_toArray, List.set_cons_zero, List.set_cons_succ]
        refine wpAnyH_take (i := 1) (oi := ?raO1) (v := ?raV1) ?raI1 (by kernel_rfl) (by kernel_rfl) (by kernel_rfl) ?raQ1 (Or.inl ⟨?raW1, ?raY1⟩) hHeld ?raR1
        case raI1 => (simp only [List.getElem?_toArray, List.getElem?_cons_succ, List.getElem?_cons_zero]; exact rfl)
        case raQ1 => exact fun _ _ _ h => h
        case raW1 => kernel_rfl
        case raY1 => (intro W hSw; clear hSw; go_simp; try with_reducible rfl)
        try simp only [Act.put, List.setIfInBounds_toArray, List.set_cons_zero, List.set_cons_succ]
        refine wpAnyH_take (i := 2) (oi := ?raO2) (v := ?raV2) ?raI2 (by kernel_rfl) (by kernel_rfl) (by kernel_rfl) ?raQ2 (Or.inl ⟨?raW2, ?raY2⟩) hHeld ?raR2
        case raI2 => (simp only [List.getElem?_toArray, List.getElem?_cons_succ, List.getElem?_cons_zero]; exact rfl)
        case raQ2 => exact fun _ _ _ h => h
        case raW2 => kernel_rfl
        case raY2 => (intro W hSw; clear hSw; go_simp; try with_reducible rfl)
        try simp only [Act.put, List.setIfInBounds_toArray, List.set_cons_zero, List.set_cons_succ]
        refine wpAnyH_take (i := 3) (oi := ?raO3) (v := ?raV3) ?raI3 (by kernel_rfl) (by kernel_rfl) (by kernel_rfl) ?raQ3 (Or.inl ⟨?raW3, ?raY3⟩) hHeld ?raR3
        case raI3 => (simp only [List.getElem?_toArray, List.getElem?_cons_succ, List.getElem?_cons_zero]; exact rfl)
        case raQ3 => exact fun _ _ _ h => h
        case raW3 => kernel_rfl
        case raY3 => (intro W hSw; clear hSw; go_simp; try with_reducible rfl)
        try simp only [Act.put, List.setIfInBounds_toArray, List.set_cons_zero, List.set_cons_succ]
        refine wpAnyH_take (i := 4) (oi := ?raO4) (v := ?raV4) ?raI4 (by kernel_rfl) (by kernel_rfl) (by kernel_rfl) ?raQ4 (Or.inl ⟨?raW4, ?raY4⟩) hHeld ?raR4
        case raI4 => (simp only [List.getElem?_toArray, List.getElem?_cons_succ, List.getElem?_cons_zero]; exact rfl)
        case raQ4 => exact fun _ _ _ h => h
        case raW4 => kernel_rfl
        case raY4 => (intro W hSw; clear hSw; go_simp; try with_reducible rfl)
        try simp only [Act.put, List.setIfInBounds_toArray, List.set_cons_zero, List.set_cons_succ]
        refine wpAnyH_take (i := 5) (oi := ?raO5) (v := ?raV5) ?raI5 (by kernel_rfl) (by kernel_rfl) (by kernel_rfl) ?raQ5 (Or.inl ⟨?raW5, ?raY5⟩) hHeld ?raR5
        case raI5 => (simp only [List.getElem?_toArray, List.getElem?_cons_succ, List.getElem?_cons_zero]; exact rfl)
        case raQ5 => exact fun _ _ _ h => h
        case raW5 => kernel_rfl
        case raY5 => (intro W hSw; clear hSw; go_simp; try with_reducible rfl)
        try simp only [Act.put, List.setIfInBounds_toArray, List.set_cons_zero, List.set_cons_succ]
        refine wpAnyH_take (i := 6) (oi := ?raO6) (v := ?raV6) ?raI6 (by kernel_rfl) (by kernel_rfl) (by kernel_rfl) ?raQ6 (Or.inl ⟨?raW6, ?raY6⟩) hHeld ?raR6
        case raI6 => (simp only [List.getElem?_toArray, List.getElem?_cons_succ, List.getElem?_cons_zero]; exact rfl)
        case raQ6 => exact fun _ _ _ h => h
        case raW6 => kernel_rfl
        case raY6 => (intro W hSw; clear hSw; go_simp; try with_reducible rfl)
        try simp only [Act.put, List.setIfInBounds_toArray, List.set_cons_zero, List.set_cons_succ]
        refine wpAnyH_take (i := 7) (oi := ?raO7) (v := ?raV7) ?raI7 (by kernel_rfl) (by kernel_rfl) (by kernel_rfl) ?raQ7 (Or.inl ⟨?raW7, ?raY7⟩) hHeld ?raR7
        case raI7 => (simp only [List.getElem?_toArray, List.getElem?_cons_succ, List.getElem?_cons_zero]; exact rfl)
        case raQ7 => exact fun _ _ _ h => h
        case raW7 => kernel_rfl
        case raY7 => (intro W hSw; clear hSw; go_simp; try with_reducible rfl)
        try simp only [Act.put, List.setIfInBounds_toArray, List.set_cons_zero, List.set_cons_succ]
        refine wpAnyH_take (i := 8) (oi := ?raO8) (v := ?raV8) ?raI8 (by kernel_rfl) (by kernel_rfl) (by kernel_rfl) ?raQ8 (Or.inl ⟨?raW8, ?raY8⟩) hHeld ?raR8
        case raI8 => (simp only [List.getElem?_toArray, List.getElem?_cons_succ, List.getElem?_cons_zero]; exact rfl)
        case raQ8 => exact fun _ _ _ h => h
        case raW8 => kernel_rfl
        case raY8 => (intro W hSw; clear hSw; go_simp; try with_reducible rfl)
        try simp only [Act.put, List.setIfInBounds_toArray, List.set_cons_zero, List.set_cons_succ]
        refine wpAnyH_take (i := 9) (oi := ?raO9) (v := ?raV9) ?raI9 (by kernel_rfl) (by kernel_rfl) (by kernel_rfl) ?raQ9 (Or.inl ⟨?raW9, ?raY9⟩) hHeld ?raR9
        case raI9 => (simp only [List.getElem?_toArray, List.getElem?_cons_succ, List.getElem?_cons_zero]; exact rfl)
        case raQ9 => exact fun _ _ _ h => h
        case raW9 => kernel_rfl
        case raY9 => (intro W hSw; clear hSw; go_simp; try with_reducible rfl)
        try simp only [Act.put, List.setIfInBounds_toArray, List.set_cons_zero, List.set_cons_succ]
        refine wpAnyH_take (i := 10) (oi := ?raO10) (v := ?raV10) ?raI10 (by kernel_rfl) (by kernel_rfl) (by kernel_rfl) ?raQ10 (Or.inl ⟨?raW10, ?raY10⟩) hHeld ?raR10
        case raI10 => (simp only [List.getElem?_toArray, List.getElem?_cons_succ, List.getElem?_cons_zero]; exact rfl)
        case raQ10 => exact fun _ _ _ h => h
        case raW10 => kernel_rfl
        case raY10 => (intro W hSw; clear hSw; go_simp; try with_reducible rfl)
        try simp only [Act.put, List.setIfInBounds_toArray, List.set_cons_zero, List.set_cons_succ]
        refine wpAnyH_take (i := 11) (oi := ?raO11) (v := ?raV11) ?raI11 (by kernel_rfl) (by kernel_rfl) (by kernel_rfl) ?raQ11 (Or.inl ⟨?raW11, ?raY11⟩) hHeld ?raR11
        case raI11 => (simp only [List.getElem?_toArray, List.getElem?_cons_succ, List.getElem?_cons_zero]; exact rfl)
        case raQ11 => exact fun _ _ _ h => h
        case raW11 => kernel_rfl
        case raY11 => (intro W hSw; clear hSw; go_simp; try with_reducible rfl)
        try simp only [Act.put, List.setIfInBounds_toArray, List.set_cons_zero, List.set_cons_succ]
        refine wpAnyH_take (i := 12) (oi := ?raO12) (v := ?raV12) ?raI12 (by kernel_rfl) (by kernel_rfl) (by kernel_rfl) ?raQ12 (Or.inl ⟨?raW12, ?raY12⟩) hHeld ?raR12
        case raI12 => (simp only [List.getElem?_toArray, List.getElem?_cons_succ, List.getElem?_cons_zero]; exact rfl)
        case raQ12 => exact fun _ _ _ h => h
        case raW12 => kernel_rfl
        case raY12 => (intro W hSw; clear hSw; go_simp; try with_reducible rfl)
        try simp only [Act.put, List.setIfInBounds_toArray, List.set_cons_zero, List.set_cons_succ]
        refine wpAnyH_take (i := 13) (oi := ?raO13) (v := ?raV13) ?raI13 (by kernel_rfl) (by kernel_rfl) (by kernel_rfl) ?raQ13 (Or.inl ⟨?raW13, ?raY13⟩) hHeld ?raR13
        case raI13 => (simp only [List.getElem?_toArray, List.getElem?_cons_succ, List.getElem?_cons_zero]; exact rfl)
        case raQ13 => exact fun _ _ _ h => h
        case raW13 => kernel_rfl
        case raY13 => (intro W hSw; clear hSw; go_simp; try with_reducible rfl)
        try simp only [Act.put, List.setIfInBounds_toArray, List.set_cons_zero, List.set_cons_succ]
        refine wpAnyH_take (i := 14) (oi := ?raO14) (v := undef) ?raI14 (by kernel_rfl) (by kernel_rfl) (by kernel_rfl) ?raQ14 (Or.inr ⟨?raW14, rfl⟩) hHeld ?raR14
        case raI14 => (simp only [List.getElem?_toArray, List.getElem?_cons_succ, List.getElem?_cons_zero]; exact rfl)
        case raQ14 => exact fun _ _ _ h => h
        case raW14 => kernel_rfl
        try simp only [Act.put, List.setIfInBounds_toArray, List.set_cons_zero, List.set_cons_succ]
        refine wpAnyH_take (i := 15) (oi := ?raO15) (v := undef) ?raI15 (by kernel_rfl) (by kernel_rfl) (by kernel_rfl) ?raQ15 (Or.inr ⟨?raW15, rfl⟩) hHeld ?raR15
        case raI15 => (simp only [List.getElem?_toArray, List.getElem?_cons_succ, List.getElem?_cons_zero]; exact rfl)
        case raQ15 => exact fun _ _ _ h => h
        case raW15 => kernel_rfl
        try simp only [Act.put, List.setIfInBounds_toArray, List.set_cons_zero, List.set_cons_succ]
        refine wpAnyH_take (i := 16) (oi := ?raO16) (v := undef) ?raI16 (by kernel_rfl) (by kernel_rfl) (by kernel_rfl) ?raQ16 (Or.inr ⟨?raW16, rfl⟩) hHeld ?raR16
        case raI16 => (simp only [List.getElem?_toArray, List.getElem?_cons_succ, List.getElem?_cons_zero]; exact rfl)
        case raQ16 => exact fun _ _ _ h => h
        case raW16 => kernel_rfl
        try simp only [Act.put, List.setIfInBounds_toArray, List.set_cons_zero, List.set_cons_succ]
        refine wpAnyH_take (i := 17) (oi := ?raO17) (v := ?raV17) ?raI17 (by kernel_rfl) (by kernel_rfl) (by kernel_rfl) ?raQ17 (Or.inl ⟨?raW17, ?raY17⟩) hHeld ?raR17
        case raI17 => (simp only [List.getElem?_toArray, List.getElem?_cons_succ, List.getElem?_cons_zero]; exact rfl)
        case raQ17 => exact fun _ _ _ h => h
        case raW17 => kernel_rfl
        case raY17 => (intro W hSw; clear hSw; go_simp; try with_reducible rfl)
        try simp only [Act.put, List.setIfInBounds_toArray, List.set_cons_zero, List.set_cons_succ]
        refine wpAnyH_take (i := 18) (oi := ?raO18) (v := ?raV18) ?raI18 (by kernel_rfl) (by kernel_rfl) (by kernel_rfl) ?raQ18 (Or.inl ⟨?raW18, ?raY18⟩) hHeld ?raR18
        case raI18 => (simp only [List.getElem?_toArray, List.getElem?_cons_succ, List.getElem?_cons_zero]; exact rfl)
        case raQ18 => exact fun _ _ _ h => h
        case raW18 => kernel_rfl
        case raY18 => (intro W hSw; clear hSw; go_simp; try with_reducible rfl)
        try simp only [Act.put, List.setIfInBounds_toArray, List.set_cons_zero, List.set_cons_succ]
        refine wpAnyH_take (i := 19) (oi := ?raO19) (v := ?raV19) ?raI19 (by kernel_rfl) (by kernel_rfl) (by kernel_rfl) ?raQ19 (Or.inl ⟨?raW19, ?raY19⟩) hHeld ?raR19
        case raI19 => (simp only [List.getElem?_toArray, List.getElem?_cons_succ, List.getElem?_cons_zero]; exact rfl)
        case raQ19 => exact fun _ _ _ h => h
        case raW19 => kernel_rfl
        case raY19 => (intro W hSw; clear hSw; go_simp; try with_reducible rfl)
        try simp only [Act.put, List.setIfInBounds_toArray, List.set_cons_zero, List.set_cons_succ]
        refine wpAnyH_take (i := 20) (oi := ?raO20) (v := ?raV20) ?raI20 (by kernel_rfl) (by kernel_rfl) (by kernel_rfl) ?raQ20 (Or.inl ⟨?raW20, ?raY20⟩) hHeld ?raR20
        case raI20 => (simp only [List.getElem?_toArray, List.getElem?_cons_succ, List.getElem?_cons_zero]; exact rfl)
        case raQ20 => exact fun _ _ _ h => h
        case raW20 => kernel_rfl
        case raY20 => (intro W hSw; obtain ⟨c0, c1, c2⟩ := hSw.p.cells; go_simp; try with_reducible rfl)
        try simp only [Act.put, List.setIfInBounds_toArray, List.set_cons_zero, List.set_cons_succ]
        refine wpAnyH_take (i := 21) (oi := ?raO21) (v := ?raV21) ?raI21 (by kernel_rfl) (by kernel_rfl) (by kernel_rfl) ?raQ21 (Or.inl ⟨?raW21, ?raY21⟩) hHeld ?raR21
        case raI21 => (simp only [List.getElem?_toArray, List.getElem?_cons_succ, List.getElem?_cons_zero]; exact rfl)
        case raQ21 => exact fun _ _ _ h => h
        case raW21 => kernel_rfl
        case raY21 => (intro W hSw; obtain ⟨c0, c1, c2⟩ := hSw.y.cells; go_simp; try with_reducible rfl)
        try simp only [Act.put, List.setIfInBounds_toArray, List.set_cons_zero, List.set_cons_succ]
        refine wpAnyH_take (i := 23) (oi := ?raO23) (v := ?raV23) ?raI23 (by kernel_rfl) (by kernel_rfl) (by kernel_rfl) ?raQ23 (Or.inl ⟨?raW23, ?raY23⟩) hHeld ?raR23
        case raI23 => (simp only [List.getElem?_toArray, List.getElem?_cons_succ, List.getElem?_cons_zero]; exact rfl)
        case raQ23 => exact fun _ _ _ h => h
        case raW23 => kernel_rfl
        case raY23 => (intro W hSw; obtain ⟨c0, c1, c2⟩ := hSw.x.cells; go_simp; try with_reducible rfl)
        try simp only [Act.put, List.setIfInBounds_toArray, List.set_cons_zero, List.set_cons_succ]
        refine wpAnyH_ready (rs := [22]) (by kernel_rfl) (by simp) ?_
        refine AllReadyH.cons (o := ?raO22) ?raI22 (fun K hK => ?raR22) AllReadyH.nil
        case raI22 => (simp only [List.getElem?_toArray, List.getElem?_cons_succ, List.getElem?_cons_zero]; exact rfl)
        rw [if_pos (by kernel_rfl)]
        go_simp
        refine (HTP.out _ (by repeat (first | exact Below.refl _ _ | (with_reducible apply below_drewN) | (with_reducible apply Below.drew)))).mono ?_
        rintro e v1 ⟨n5, A5, l5, k5, x5, rfl, hR, hW⟩
        have hb : Below w10.heap.size w10 v1 := Below.trans (by repeat (first | exact Below.refl _ _ | (with_reducible apply below_drewN) | (with_reducible apply Below.drew))) hW
        have E1 := Lib.hid (G0.out.below hb)
        have R1 := Lib.hid hR
        clear hR hW hb HTP
        have HCP := Lib.hid (fun (W : World) (hW : Below v1.heap.size v1 W) => cmp_c 2148 w.heap.size 5000 (numV zp * numV v) (numV u * ((2 ^ 1074 : Nat) : Int)) n5 n1 A5 A1 l5 l1 k5 k1 x5 x1 W (Nat.le_trans E1.out.bel.size hW.size) (R1.out.below hW) ((E1.out.x.2.below hW).raise 1074) (prod_bd HBD.out.2.2.1 HBD.out.2.1) (raise_bd HBD.out.1) (by decide) (by decide)); rw [HT1.out] at HCP
        go_wp2_with fail
        clear hHeld
        refine hK.out _ _ E1.out (fun hHeld => ?_)
        clear hK K
        try simp only [Act.put, List.setIfInBounds_toArray, List.set_cons_zero, List.set_cons_succ]
        refine wpAnyH_ready (rs := [24]) (by kernel_rfl) (by simp) ?_
        refine AllReadyH.cons (o := ?raO24) ?raI24 (fun K hK => ?raR24) AllReadyH.nil
        case raI24 => (simp only [List.getElem?_toArray, List.getElem?_cons_succ, List.getElem?_cons_zero]; exact rfl)
        rw [if_pos (by kernel_rfl)]
        go_simp
        refine (HCP.out _ (by repeat (first | exact Below.refl _ _ | (with_reducible apply below_drewN) | (with_reducible apply Below.drew)))).mono ?_
        rintro e v2 ⟨rfl, hW⟩
        have hb : Below v1.heap.size v1 v2 := Below.trans (by repeat (first | exact Below.refl _ _ | (with_reducible apply below_drewN) | (with_reducible apply Below.drew))) hW
        have E2 := Lib.hid (E1.out.below hb)
        clear hW hb HCP
        have HTQ := Lib.hid (fun (W : World) (hW : Below v2.heap.size v2 W) => times_c2 1074 1074 w.heap.size 2098 (numV zq) (numV v) n4 n2 A4 A2 l4 l2 k4 k2 x4 x2 W (Nat.le_trans E2.out.bel.size hW.size) (E2.out.q.2.below hW) (E2.out.y.2.below hW) HBD.out.2.2.2 HBD.out.2.1 (by decide) (by decide) (by decide))
        go_wp2_with fail
        clear hHeld
        refine hK.out _ _ E2.out (fun hHeld => ?_)
        clear hK K
        try simp only [Act.put, List.setIfInBounds_toArray, List.set_cons_zero, List.set_cons_succ]
        refine wpAnyH_take (i := 25) (oi := ?raO25) (v := ?raV25) ?raI25 (by kernel_rfl) (by kernel_rfl) (by kernel_rfl) ?raQ25 (Or.inl ⟨?raW25, ?raY25⟩) hHeld ?raR25
        case raI25 => (simp only [List.getElem?_toArray, List.getElem?_cons_succ, List.getElem?_cons_zero]; exact rfl)
        case raQ25 => exact fun _ _ _ h => h
        case raW25 => kernel_rfl
        case raY25 => (intro W hSw; clear hSw; go_simp; try with_reducible rfl)
        try simp only [Act.put, List.setIfInBounds_toArray, List.set_cons_zero, List.set_cons_succ]
        refine wpAnyH_take (i := 26) (oi := ?raO26) (v := ?raV26) ?raI26 (by kernel_rfl) (by kernel_rfl) (by kernel_rfl) ?raQ26 (Or.inl ⟨?raW26, ?raY26⟩) hHeld ?raR26
        case raI26 => (simp only [List.getElem?_toArray, List.getElem?_cons_succ, List.getElem?_cons_zero]; exact rfl)
        case raQ26 => exact fun _ _ _ h => h
        case raW26 => kernel_rfl
        case raY26 => (intro W hSw; clear hSw; go_simp; try with_reducible rfl)
        try simp only [Act.put, List.setIfInBounds_toArray, List.set_cons_zero, List.set_cons_succ]
        refine wpAnyH_take (i := 27) (oi := ?raO27) (v := ?raV27) ?raI27 (by kernel_rfl) (by kernel_rfl) (by kernel_rfl) ?raQ27 (Or.inl ⟨?raW27, ?raY27⟩) hHeld ?raR27
        case raI27 => (simp only [List.getElem?_toArray, List.getElem?_cons_succ, List.getElem?_cons_zero]; exact rfl)
        case raQ27 => exact fun _ _ _ h => h
        case raW27 => kernel_rfl
        case raY27 => (intro W hSw; clear hSw; go_simp; try with_reducible rfl)
        try simp only [Act.put, List.setIfInBounds_toArray, List.set_cons_zero, List.set_cons_succ]
        refine wpAnyH_take (i := 28) (oi := ?raO28) (v := ?raV28) ?raI28 (by kernel_rfl) (by kernel_rfl) (by kernel_rfl) ?raQ28 (Or.inl ⟨?raW28, ?raY28⟩) hHeld ?raR28
        case raI28 => (simp only [List.getElem?_toArray, List.getElem?_cons_succ, List.getElem?_cons_zero]; exact rfl)
        case raQ28 => exact fun _ _ _ h => h
        case raW28 => kernel_rfl
        case raY28 => (intro W hSw; obtain ⟨c0, c1, c2⟩ := hSw.q.cells; go_simp; try with_reducible rfl)
        try simp only [Act.put, List.setIfInBounds_toArray, List.set_cons_zero, List.set_cons_succ]
        refine wpAnyH_take (i := 29) (oi := ?raO29) (v := ?raV29) ?raI29 (by kernel_rfl) (by kernel_rfl) (by kernel_rfl) ?raQ29 (Or.inl ⟨?raW29, ?raY29⟩) hHeld ?raR29
        case raI29 => (simp only [List.getElem?_toArray, List.getElem?_cons_succ, List.getElem?_cons_zero]; exact rfl)
        case raQ29 => exact fun _ _ _ h => h
        case raW29 => kernel_rfl
        case raY29 => (intro W hSw; obtain ⟨c0, c1, c2⟩ := hSw.y.cells; go_simp; try with_reducible rfl)
        try simp only [Act.put, List.setIfInBounds_toArray, List.set_cons_zero, List.set_cons_succ]
        refine wpAnyH_take (i := 31) (oi := ?raO31) (v := ?raV31) ?raI31 (by kernel_rfl) (by kernel_rfl) (by kernel_rfl) ?raQ31 (Or.inl ⟨?raW31, ?raY31⟩) hHeld ?raR31
        case raI31 => (simp only [List.getElem?_toArray, List.getElem?_cons_succ, List.getElem?_cons_zero]; exact rfl)
        case raQ31 => exact fun _ _ _ h => h
        case raW31 => kernel_rfl
        case raY31 => (intro W hSw; obtain ⟨c0, c1, c2⟩ := hSw.x.cells; go_simp; try with_reducible rfl)
        try simp only [Act.put, List.setIfInBounds_toArray, List.set_cons_zero, List.set_cons_succ]
        refine wpAnyH_ready (rs := [30]) (by kernel_rfl) (by simp) ?_
        refine AllReadyH.cons (o := ?raO30) ?raI30 (fun K hK => ?raR30) AllReadyH.nil
        case raI30 => (simp only [List.getElem?_toArray, List.getElem?_cons_succ, List.getElem?_cons_zero]; exact rfl)
        rw [if_pos (by kernel_rfl)]
        go_simp
        refine (HTQ.out _ (by repeat (first | exact Below.refl _ _ | (with_reducible apply below_drewN) | (with_reducible apply Below.drew)))).mono ?_
        rintro e v3 ⟨n6, A6, l6, k6, x6, rfl, hR, hW⟩
        have hb : Below v2.heap.size v2 v3 := Below.trans (by repeat (first | exact Below.refl _ _ | (with_reducible apply below_drewN) | (with_reducible apply Below.drew))) hW
        have E3 := Lib.hid (E2.out.below hb)
        have R3 := Lib.hid hR
        clear hR hW hb HTQ
        have HCQ := Lib.hid (fun (W : World) (hW : Below v3.heap.size v3 W) => cmp_c 2148 w.heap.size 5000 (numV zq * numV v) (numV u * ((2 ^ 1074 : Nat) : Int)) n6 n1 A6 A1 l6 l1 k6 k1 x6 x1 W (Nat.le_trans E3.out.bel.size hW.size) (R3.out.below hW) ((E3.out.x.2.below hW).raise 1074) (prod_bd HBD.out.2.2.2 HBD.out.2.1) (raise_bd HBD.out.1) (by decide) (by decide)); rw [HT2.out] at HCQ
        go_wp2_with fail
        clear hHeld
        refine hK.out _ _ E3.out (fun hHeld => ?_)
        clear hK K
        try simp only [Act.put, List.setIfInBounds_toArray, List.set_cons_zero, List.set_cons_succ]
        refine wpAnyH_ready (rs := [32]) (by kernel_rfl) (by simp) ?_
        refine AllReadyH.cons (o := ?raO32) ?raI32 (fun K hK => ?raR32) AllReadyH.nil
        case raI32 => (simp only [List.getElem?_toArray, List.getElem?_cons_succ, List.getElem?_cons_zero]; exact rfl)
        rw [if_pos (by kernel_rfl)]
        go_simp
        refine (HCQ.out _ (by repeat (first | exact Below.refl _ _ | (with_reducible apply below_drewN) | (with_reducible apply Below.drew)))).mono ?_
        rintro e v4 ⟨rfl, hW⟩
        have hb : Below v3.heap.size v3 v4 := Below.trans (by repeat (first | exact Below.refl _ _ | (with_reducible apply below_drewN) | (with_reducible apply Below.drew))) hW
        have E4 := Lib.hid (E3.out.below hb)
        clear hW hb HCQ
        go_wp2_with fail
        clear hHeld
        refine hK.out _ _ E4.out (fun hHeld => ?_)
        clear hK K
        try simp only [Act.put, List.setIfInBounds_toArray, List.set_cons_zero, List.set_cons_succ]
        refine wpAnyH_take (i := 33) (oi := ?raO33) (v := ?raV33) ?raI33 (by kernel_rfl) (by kernel_rfl) (by kernel_rfl) ?raQ33 (Or.inl ⟨?raW33, ?raY33⟩) hHeld ?raR33
        case raI33 => (simp only [List.getElem?_toArray, List.getElem?_cons_succ, List.getElem?_cons_zero]; exact rfl)
        case raQ33 => exact fun _ _ _ h => h
        case raW33 => kernel_rfl
        case raY33 => (intro W hSw; clear hSw; go_simp; try with_reducible rfl)
        try simp only [Act.put, List.setIfInBounds_toArray, List.set_cons_zero, List.set_cons_succ]
        refine wpAnyH_take (i := 34) (oi := ?raO34) (v := ?raV34) ?raI34 (by kernel_rfl) (by kernel_rfl) (by kernel_rfl) ?raQ34 (Or.inl ⟨?raW34, ?raY34⟩) hHeld ?raR34
        case raI34 => (simp only [List.getElem?_toArray, List.getElem?_cons_succ, List.getElem?_cons_zero]; exact rfl)
        case raQ34 => exact fun _ _ _ h => h
        case raW34 => kernel_rfl
        case raY34 => (intro W hSw; clear hSw; go_simp; try with_reducible rfl)
        try simp only [Act.put, List.setIfInBounds_toArray, List.set_cons_zero, List.set_cons_succ]
        refine wpAnyH_take (i := 35) (oi := ?raO35) (v := ?raV35) ?raI35 (by kernel_rfl) (by kernel_rfl) (by kernel_rfl) ?raQ35 (Or.inl ⟨?raW35, ?raY35⟩) hHeld ?raR35
        case raI35 => (simp only [List.getElem?_toArray, List.getElem?_cons_succ, List.getElem?_cons_zero]; exact rfl)
        case raQ35 => exact fun _ _ _ h => h
        case raW35 => kernel_rfl
        case raY35 => (intro W hSw; clear hSw; go_simp; try with_reducible rfl)
        try simp only [Act.put, List.setIfInBounds_toArray, List.set_cons_zero, List.set_cons_succ]
        refine wpAnyH_ready (rs := [36]) (by kernel_rfl) (by simp) ?_
        refine AllReadyH.cons (o := ?raO36) ?raI36 (fun K hK => ?raR36) AllReadyH.nil
        case raI36 => (simp only [List.getElem?_toArray, List.getElem?_cons_succ, List.getElem?_cons_zero]; exact rfl)
        rw [if_pos (by kernel_rfl)]
        go_simp
        refine (started_calls _).mono ?_
        rintro e v5 ⟨rfl, hW⟩
        have E5 := Lib.hid (E4.out.below (Below.trans (by repeat (first | exact Below.refl _ _ | (with_reducible apply below_drewN) | (with_reducible apply Below.drew))) hW))
        clear hW
        go_wp2_with fail
        clear hHeld
        refine hK.out _ _ E5.out (fun hHeld => ?_)
        clear hK K
        try simp only [Act.put, List.setIfInBounds_toArray, List.set_cons_zero, List.set_cons_succ]
        refine wpAnyH_take (i := 37) (oi := ?raO37) (v := ?raV37) ?raI37 (by kernel_rfl) (by kernel_rfl) (by kernel_rfl) ?raQ37 (Or.inl ⟨?raW37, ?raY37⟩) hHeld ?raR37
        case raI37 => (simp only [List.getElem?_toArray, List.getElem?_cons_succ, List.getElem?_cons_zero]; exact rfl)
        case raQ37 => exact fun _ _ _ h => h
        case raW37 => kernel_rfl
        case raY37 => (intro W hSw; clear hSw; go_simp; try with_reducible rfl)
        try simp only [Act.put, List.setIfInBounds_toArray, List.set_cons_zero, List.set_cons_succ]
        refine wpAnyH_take (i := 38) (oi := ?raO38) (v := ?raV38) ?raI38 (by kernel_rfl) (by kernel_rfl) (by kernel_rfl) ?raQ38 (Or.inl ⟨?raW38, ?raY38⟩) hHeld ?raR38
        case raI38 => (simp only [List.getElem?_toArray, List.getElem?_cons_succ, List.getElem?_cons_zero]; exact rfl)
        case raQ38 => exact fun _ _ _ h => h
        case raW38 => kernel_rfl
        case raY38 => (intro W hSw; clear hSw; go_simp; try with_reducible rfl)
        try simp only [Act.put, List.setIfInBounds_toArray, List.set_cons_zero, List.set_cons_succ]
        refine wpAnyH_done (by kernel_rfl) ?_ _
        refine NoPanic.normal ?_
        go_wp2
        go_ret
        exact ⟨rfl, E5.out.bel⟩
      · go_wp2_with fail
        refine wp_region_noPanic ?_
        refine wp_region_held_drew (S := (fun wx => Four w wx w.heap.size w1.heap.size w2.heap.size w5.heap.size w6.heap.size (numV u) (numV v) (numV zp) (numV zq) n1 n2 n3 n4 A1 A2 A3 A4 l1 l2 l3 l4 k1 k2 k3 k4 x1 x2 x3 x4)) (by kernel_rfl) (G0.out.below (by repeat (first | exact Below.refl _ _ | (with_reducible apply below_drewN) | (with_reducible apply Below.drew)))) (fun hHeld => ?_)
        change wpAnyH _ _ _ _ _ 39 _ _ _
        refine wpAnyH_take (i := 0) (oi := ?rbO0) (v := ?rbV0) ?rbI0 (by kernel_rfl) (by kernel_rfl) (by kernel_rfl) ?rbQ0 (Or.inl ⟨?rbW0, ?rbY0⟩) hHeld ?rbR0
        case rbI0 => (simp only [List.getElem?_toArray, List.getElem?_cons_succ, List.getElem?_cons_zero]; exact rfl)
        case rbQ0 => exact fun _ _ _ h => h
        case rbW0 => kernel_rfl
        case rbY0 => (intro W hSw; clear hSw; go_simp; try with_reducible rfl)
        try simp only [Act.put, List.setIfInBounds_toArray, List.set_cons_zero, List.set_cons_succ]
        refine wpAnyH_take (i := 1) (oi := ?rbO1) (v := ?rbV1) ?rbI1 (by kernel_rfl) (by kernel_rfl) (by kernel_rfl) ?rbQ1 (Or.inl ⟨?rbW1, ?rbY1⟩) hHeld ?rbR1
        case rbI1 => (simp only [List.getElem?_toArray, List.getElem?_cons_succ, List.getElem?_cons_zero]; exact rfl)
        case rbQ1 => exact fun _ _ _ h => h
        case rbW1 => kernel_rfl
        case rbY1 => (intro W hSw; clear hSw; go_simp; try with_reducible rfl)
        try simp only [Act.put, List.setIfInBounds_toArray, List.set_cons_zero, List.set_cons_succ]
        refine wpAnyH_take (i := 2) (oi := ?rbO2) (v := ?rbV2) ?rbI2 (by kernel_rfl) (by kernel_rfl) (by kernel_rfl) ?rbQ2 (Or.inl ⟨?rbW2, ?rbY2⟩) hHeld ?rbR2
        case rbI2 => (simp only [List.getElem?_toArray, List.getElem?_cons_succ, List.getElem?_cons_zero]; exact rfl)
        case rbQ2 => exact fun _ _ _ h => h
        case rbW2 => kernel_rfl
        case rbY2 => (intro W hSw; clear hSw; go_simp; try with_reducible rfl)
        try simp only [Act.put, List.setIfInBounds_toArray, List.set_cons_zero, List.set_cons_succ]
        refine wpAnyH_take (i := 3) (oi := ?rbO3) (v := ?rbV3) ?rbI3 (by kernel_rfl) (by kernel_rfl) (by kernel_rfl) ?rbQ3 (Or.inl ⟨?rbW3, ?rbY3⟩) hHeld ?rbR3
        case rbI3 => (simp only [List.getElem?_toArray, List.getElem?_cons_succ, List.getElem?_cons_zero]; exact rfl)
        case rbQ3 => exact fun _ _ _ h => h
        case rbW3 => kernel_rfl
        case rbY3 => (intro W hSw; clear hSw; go_simp; try with_reducible rfl)
        try simp only [Act.put, List.setIfInBounds_toArray, List.set_cons_zero, List.set_cons_succ]
        refine wpAnyH_take (i := 4) (oi := ?rbO4) (v := ?rbV4) ?rbI4 (by kernel_rfl) (by kernel_rfl) (by kernel_rfl) ?rbQ4 (Or.inl ⟨?rbW4, ?rbY4⟩) hHeld ?rbR4
        case rbI4 => (simp only [List.getElem?_toArray, List.getElem?_cons_succ, List.getElem?_cons_zero]; exact rfl)
        case rbQ4 => exact fun _ _ _ h => h
        case rbW4 => kernel_rfl
        case rbY4 => (intro W hSw; clear hSw; go_simp; try with_reducible rfl)
        try simp only [Act.put, List.setIfInBounds_toArray, List.set_cons_zero, List.set_cons_succ]
        refine wpAnyH_take (i := 5) (oi := ?rbO5) (v := ?rbV5) ?rbI5 (by kernel_rfl) (by kernel_rfl) (by kernel_rfl) ?rbQ5 (Or.inl ⟨?rbW5, ?rbY5⟩) hHeld ?rbR5
        case rbI5 => (simp only [List.getElem?_toArray, List.getElem?_cons_succ, List.getElem?_cons_zero]; exact rfl)
        case rbQ5 => exact fun _ _ _ h => h
        case rbW5 => kernel_rfl
        case rbY5 => (intro W hSw; clear hSw; go_simp; try with_reducible rfl)
        try simp only [Act.put, List.setIfInBounds_toArray, List.set_cons_zero, List.set_cons_succ]
        refine wpAnyH_take (i := 6) (oi := ?rbO6) (v := ?rbV6) ?rbI6 (by kernel_rfl) (by kernel_rfl) (by kernel_rfl) ?rbQ6 (Or.inl ⟨?rbW6, ?rbY6⟩) hHeld ?rbR6
        case rbI6 => (simp only [List.getElem?_toArray, List.getElem?_cons_succ, List.getElem?_cons_zero]; exact rfl)
        case rbQ6 => exact fun _ _ _ h => h
        case rbW6 => kernel_rfl
        case rbY6 => (intro W hSw; clear hSw; go_simp; try with_reducible rfl)
        try simp only [Act.put, List.setIfInBounds_toArray, List.set_cons_zero, List.set_cons_succ]
        refine wpAnyH_take (i := 7) (oi := ?rbO7) (v := ?rbV7) ?rbI7 (by kernel_rfl) (by kernel_rfl) (by kernel_rfl) ?rbQ7 (Or.inl ⟨?rbW7, ?rbY7⟩) hHeld ?rbR7
        case rbI7 => (simp only [List.getElem?_toArray, List.getElem?_cons_succ, List.getElem?_cons_zero]; exact rfl)
        case rbQ7 => exact fun _ _ _ h => h
        case rbW7 => kernel_rfl
        case rbY7 => (intro W hSw; clear hSw; go_simp; try with_reducible rfl)
        try simp only [Act.put, List.setIfInBounds_toArray, List.set_cons_zero, List.set_cons_succ]
        refine wpAnyH_take (i := 8) (oi := ?rbO8) (v := ?rbV8) ?rbI8 (by kernel_rfl) (by kernel_rfl) (by kernel_rfl) ?rbQ8 (Or.inl ⟨?rbW8, ?rbY8⟩) hHeld ?rbR8
        case rbI8 => (simp only [List.getElem?_toArray, List.getElem?_cons_succ, List.getElem?_cons_zero]; exact rfl)
        case rbQ8 => exact fun _ _ _ h => h
        case rbW8 => kernel_rfl
        case rbY8 => (intro W hSw; clear hSw; go_simp; try with_reducible rfl)
        try simp only [Act.put, List.setIfInBounds_toArray, List.set_cons_zero, List.set_cons_succ]
        refine wpAnyH_take (i := 9) (oi := ?rbO9) (v := ?rbV9) ?rbI9 (by kernel_rfl) (by kernel_rfl) (by kernel_rfl) ?rbQ9 (Or.inl ⟨?rbW9, ?rbY9⟩) hHeld ?rbR9
        case rbI9 => (simp only [List.getElem?_toArray, List.getElem?_cons_succ, List.getElem?_cons_zero]; exact rfl)
        case rbQ9 => exact fun _ _ _ h => h
        case rbW9 => kernel_rfl
        case rbY9 => (intro W hSw; clear hSw; go_simp; try with_reducible rfl)
        try simp only [Act.put, List.setIfInBounds_toArray, List.set_cons_zero, List.set_cons_succ]
        refine wpAnyH_take (i := 10) (oi := ?rbO10) (v := ?rbV10) ?rbI10 (by kernel_rfl) (by kernel_rfl) (by kernel_rfl) ?rbQ10 (Or.inl ⟨?rbW10, ?rbY10⟩) hHeld ?rbR10
        case rbI10 => (simp only [List.getElem?_toArray, List.getElem?_cons_succ, List.getElem?_cons_zero]; exact rfl)
        case rbQ10 => exact fun _ _ _ h => h
        case rbW10 => kernel_rfl
        case rbY10 => (intro W hSw; clear hSw; go_simp; try with_reducible rfl)
        try simp only [Act.put, List.setIfInBounds_toArray, List.set_cons_zero, List.set_cons_succ]
        refine wpAnyH_take (i := 11) (oi := ?rbO11) (v := ?rbV11) ?rbI11 (by kernel_rfl) (by kernel_rfl) (by kernel_rfl) ?rbQ11 (Or.inl ⟨?rbW11, ?rbY11⟩) hHeld ?rbR11
        case rbI11 => (simp only [List.getElem?_toArray, List.getElem?_cons_succ, List.getElem?_cons_zero]; exact rfl)
        case rbQ11 => exact fun _ _ _ h => h
        case rbW11 => kernel_rfl
        case rbY11 => (intro W hSw; clear hSw; go_simp; try with_reducible rfl)
        try simp only [Act.put, List.setIfInBounds_toArray, List.set_cons_zero, List.set_cons_succ]
        refine wpAnyH_take (i := 12) (oi := ?rbO12) (v := ?rbV12) ?rbI12 (by kernel_rfl) (by kernel_rfl) (by kernel_rfl) ?rbQ12 (Or.inl ⟨?rbW12, ?rbY12⟩) hHeld ?rbR12
        case rbI12 => (simp only [List.getElem?_toArray, List.getElem?_cons_succ, List.getElem?_cons_zero]; exact rfl)
        case rbQ12 => exact fun _ _ _ h => h
        case rbW12 => kernel_rfl
        case rbY12 => (intro W hSw; clear hSw; go_simp; try with_reducible rfl)
        try simp only [Act.put, List.setIfInBounds_toArray, List.set_cons_zero, List.set_cons_succ]
        refine wpAnyH_take (i := 13) (oi := ?rbO13) (v := ?rbV13) ?rbI13 (by kernel_rfl) (by kernel_rfl) (by kernel_rfl) ?rbQ13 (Or.inl ⟨?rbW13, ?rbY13⟩) hHeld ?rbR13
        case rbI13 => (simp only [List.getElem?_toArray, List.getElem?_cons_succ, List.getElem?_cons_zero]; exact rfl)
        case rbQ13 => exact fun _ _ _ h => h
        case rbW13 => kernel_rfl
        case rbY13 => (intro W hSw; clear hSw; go_simp; try with_reducible rfl)
        try simp only [Act.put, List.setIfInBounds_toArray, List.set_cons_zero, List.set_cons_succ]
        refine wpAnyH_take (i := 14) (oi := ?rbO14) (v := ?rbV14) ?rbI14 (by kernel_rfl) (by kernel_rfl) (by kernel_rfl) ?rbQ14 (Or.inl ⟨?rbW14, ?rbY14⟩) hHeld ?rbR14
        case rbI14 => (simp only [List.getElem?_toArray, List.getElem?_cons_succ, List.getElem?_cons_zero]; exact rfl)
        case rbQ14 => exact fun _ _ _ h => h
        case rbW14 => kernel_rfl
        case rbY14 => (intro W hSw; clear hSw; go_simp; try with_reducible rfl)
        try simp only [Act.put, List.setIfInBounds_toArray, List.set_cons_zero, List.set_cons_succ]
        refine wpAnyH_take (i := 15) (oi := ?rbO15) (v := ?rbV15) ?rbI15 (by kernel_rfl) (by kernel_rfl) (by kernel_rfl) ?rbQ15 (Or.inl ⟨?rbW15, ?rbY15⟩) hHeld ?rbR15
        case rbI15 => (simp only [List.getElem?_toArray, List.getElem?_cons_succ, List.getElem?_cons_zero]; exact rfl)
        case rbQ15 => exact fun _ _ _ h => h
        case rbW15 => kernel_rfl
        case rbY15 => (intro W hSw; clear hSw; go_simp; try with_reducible rfl)
        try simp only [Act.put, List.setIfInBounds_toArray, List.set_cons_zero, List.set_cons_succ]
        refine wpAnyH_take (i := 16) (oi := ?rbO16) (v := ?rbV16) ?rbI16 (by kernel_rfl) (by kernel_rfl) (by kernel_rfl) ?rbQ16 (Or.inl ⟨?rbW16, ?rbY16⟩) hHeld ?rbR16
        case rbI16 => (simp only [List.getElem?_toArray, List.getElem?_cons_succ, List.getElem?_cons_zero]; exact rfl)
        case rbQ16 => exact fun _ _ _ h => h
        case rbW16 => kernel_rfl
        case rbY16 => (intro W hSw; clear hSw; go_simp; try with_reducible rfl)
        try simp only [Act.put, List.setIfInBounds_toArray, List.set_cons_zero, List.set_cons_succ]
        refine wpAnyH_take (i := 17) (oi := ?rbO17) (v := ?rbV17) ?rbI17 (by kernel_rfl) (by kernel_rfl) (by kernel_rfl) ?rbQ17 (Or.inl ⟨?rbW17, ?rbY17⟩) hHeld ?rbR17
        case rbI17 => (simp only [List.getElem?_toArray, List.getElem?_cons_succ, List.getElem?_cons_zero]; exact rfl)
        case rbQ17 => exact fun _ _ _ h => h
        case rbW17 => kernel_rfl
        case rbY17 => (intro W hSw; clear hSw; go_simp; try with_reducible rfl)
        try simp only [Act.put, List.setIfInBounds_toArray, List.set_cons_zero, List.set_cons_succ]
        refine wpAnyH_take (i := 18) (oi := ?rbO18) (v := ?rbV18) ?rbI18 (by kernel_rfl) (by kernel_rfl) (by kernel_rfl) ?rbQ18 (Or.inl ⟨?rbW18, ?rbY18⟩) hHeld ?rbR18
        case rbI18 => (simp only [List.getElem?_toArray, List.getElem?_cons_succ, List.getElem?_cons_zero]; exact rfl)
        case rbQ18 => exact fun _ _ _ h => h
        case rbW18 => kernel_rfl
        case rbY18 => (intro W hSw; clear hSw; go_simp; try with_reducible rfl)
        try simp only [Act.put, List.setIfInBounds_toArray, List.set_cons_zero, List.set_cons_succ]
        refine wpAnyH_take (i := 19) (oi := ?rbO19) (v := ?rbV19) ?rbI19 (by kernel_rfl) (by kernel_rfl) (by kernel_rfl) ?rbQ19 (Or.inl ⟨?rbW19, ?rbY19⟩) hHeld ?rbR19
        case rbI19 => (simp only [List.getElem?_toArray, List.getElem?_cons_succ, List.getElem?_cons_zero]; exact rfl)
        case rbQ19 => exact fun _ _ _ h => h
        case rbW19 => kernel_rfl
        case rbY19 => (intro W hSw; clear hSw; go_simp; try with_reducible rfl)
        try simp only [Act.put, List.setIfInBounds_toArray, List.set_cons_zero, List.set_cons_succ]
        refine wpAnyH_take (i := 20) (oi := ?rbO20) (v := ?rbV20) ?rbI20 (by kernel_rfl) (by kernel_rfl) (by kernel_rfl) ?rbQ20 (Or.inl ⟨?rbW20, ?rbY20⟩) hHeld ?rbR20
        case rbI20 => (simp only [List.getElem?_toArray, List.getElem?_cons_succ, List.getElem?_cons_zero]; exact rfl)
        case rbQ20 => exact fun _ _ _ h => h
        case rbW20 => kernel_rfl
        case rbY20 => (intro W hSw; obtain ⟨c0, c1, c2⟩ := hSw.p.cells; go_simp; try with_reducible rfl)
        try simp only [Act.put, List.setIfInBounds_toArray, List.set_cons_zero, List.set_cons_succ]
        refine wpAnyH_take (i := 21) (oi := ?rbO21) (v := ?rbV21) ?rbI21 (by kernel_rfl) (by kernel_rfl) (by kernel_rfl) ?rbQ21 (Or.inl ⟨?rbW21, ?rbY21⟩) hHeld ?rbR21
        case rbI21 => (simp only [List.getElem?_toArray, List.getElem?_cons_succ, List.getElem?_cons_zero]; exact rfl)
        case rbQ21 => exact fun _ _ _ h => h
        case rbW21 => kernel_rfl
        case rbY21 => (intro W hSw; obtain ⟨c0, c1, c2⟩ := hSw.y.cells; go_simp; try with_reducible rfl)
        try simp only [Act.put, List.setIfInBounds_toArray, List.set_cons_zero, List.set_cons_succ]
        refine wpAnyH_take (i := 23) (oi := ?rbO23) (v := ?rbV23) ?rbI23 (by kernel_rfl) (by kernel_rfl) (by kernel_rfl) ?rbQ23 (Or.inl ⟨?rbW23, ?rbY23⟩) hHeld ?rbR23
        case rbI23 => (simp only [List.getElem?_toArray, List.getElem?_cons_succ, List.getElem?_cons_zero]; exact rfl)
        case rbQ23 => exact fun _ _ _ h => h
        case rbW23 => kernel_rfl
        case rbY23 => (intro W hSw; obtain ⟨c0, c1, c2⟩ := hSw.x.cells; go_simp; try with_reducible rfl)
        try simp only [Act.put, List.setIfInBounds_toArray, List.set_cons_zero, List.set_cons_succ]
        refine wpAnyH_ready (rs := [22]) (by kernel_rfl) (by simp) ?_
        refine AllReadyH.cons (o := ?rbO22) ?rbI22 (fun K hK => ?rbR22) AllReadyH.nil
        case rbI22 => (simp only [List.getElem?_toArray, List.getElem?_cons_succ, List.getElem?_cons_zero]; exact rfl)
        rw [if_pos (by kernel_rfl)]
        go_simp
        refine (HTP.out _ (by repeat (first | exact Below.refl _ _ | (with_reducible apply below_drewN) | (with_reducible apply Below.drew)))).mono ?_
        rintro e v1 ⟨n5, A5, l5, k5, x5, rfl, hR, hW⟩
        have hb : Below w10.heap.size w10 v1 := Below.trans (by repeat (first | exact Below.refl _ _ | (with_reducible apply below_drewN) | (with_reducible apply Below.drew))) hW
        have E1 := Lib.hid (G0.out.below hb)
        have R1 := Lib.hid hR
        clear hR hW hb HTP
        have HCP := Lib.hid (fun (W : World) (hW : Below v1.heap.size v1 W) => cmp_c 2148 w.heap.size 5000 (numV zp * numV v) (numV u * ((2 ^ 1074 : Nat) : Int)) n5 n1 A5 A1 l5 l1 k5 k1 x5 x1 W (Nat.le_trans E1.out.bel.size hW.size) (R1.out.below hW) ((E1.out.x.2.below hW).raise 1074) (prod_bd HBD.out.2.2.1 HBD.out.2.1) (raise_bd HBD.out.1) (by decide) (by decide)); rw [HT1.out] at HCP
        go_wp2_with fail
        clear hHeld
        refine hK.out _ _ E1.out (fun hHeld => ?_)
        clear hK K
        try simp only [Act.put, List.setIfInBounds_toArray, List.set_cons_zero, List.set_cons_succ]
        refine wpAnyH_ready (rs := [24]) (by kernel_rfl) (by simp) ?_
        refine AllReadyH.cons (o := ?rbO24) ?rbI24 (fun K hK => ?rbR24) AllReadyH.nil
        case rbI24 => (simp only [List.getElem?_toArray, List.getElem?_cons_succ, List.getElem?_cons_zero]; exact rfl)
        rw [if_pos (by kernel_rfl)]
        go_simp
        refine (HCP.out _ (by repeat (first | exact Below.refl _ _ | (with_reducible apply below_drewN) | (with_reducible apply Below.drew)))).mono ?_
        rintro e v2 ⟨rfl, hW⟩
        have hb : Below v1.heap.size v1 v2 := Below.trans (by repeat (first | exact Below.refl _ _ | (with_reducible apply below_drewN) | (with_reducible apply Below.drew))) hW
        have E2 := Lib.hid (E1.out.below hb)
        clear hW hb HCP
        have HTQ := Lib.hid (fun (W : World) (hW : Below v2.heap.size v2 W) => times_c2 1074 1074 w.heap.size 2098 (numV zq) (numV v) n4 n2 A4 A2 l4 l2 k4 k2 x4 x2 W (Nat.le_trans E2.out.bel.size hW.size) (E2.out.q.2.below hW) (E2.out.y.2.below hW) HBD.out.2.2.2 HBD.out.2.1 (by decide) (by decide) (by decide))
        go_wp2_with fail
        clear hHeld
        refine hK.out _ _ E2.out (fun hHeld => ?_)
        clear hK K
        try simp only [Act.put, List.setIfInBounds_toArray, List.set_cons_zero, List.set_cons_succ]
        refine wpAnyH_take (i := 25) (oi := ?rbO25) (v := ?rbV25) ?rbI25 (by kernel_rfl) (by kernel_rfl) (by kernel_rfl) ?rbQ25 (Or.inl ⟨?rbW25, ?rbY25⟩) hHeld ?rbR25
        case rbI25 => (simp only [List.getElem?_toArray, List.getElem?_cons_succ, List.getElem?_cons_zero]; exact rfl)
        case rbQ25 => exact fun _ _ _ h => h
        case rbW25 => kernel_rfl
        case rbY25 => (intro W hSw; clear hSw; go_simp; try with_reducible rfl)
        try simp only [Act.put, List.setIfInBounds_toArray, List.set_cons_zero, List.set_cons_succ]
        refine wpAnyH_take (i := 26) (oi := ?rbO26) (v := ?rbV26) ?rbI26 (by kernel_rfl) (by kernel_rfl) (by kernel_rfl) ?rbQ26 (Or.inl ⟨?rbW26, ?rbY26⟩) hHeld ?rbR26
        case rbI26 => (simp only [List.getElem?_toArray, List.getElem?_cons_succ, List.getElem?_cons_zero]; exact rfl)
        case rbQ26 => exact fun _ _ _ h => h
        case rbW26 => kernel_rfl
        case rbY26 => (intro W hSw; clear hSw; go_simp; try with_reducible rfl)
        try simp only [Act.put, List.setIfInBounds_toArray, List.set_cons_zero, List.set_cons_succ]
        refine wpAnyH_take (i := 27) (oi := ?rbO27) (v := ?rbV27) ?rbI27 (by kernel_rfl) (by kernel_rfl) (by kernel_rfl) ?rbQ27 (Or.inl ⟨?rbW27, ?rbY27⟩) hHeld ?rbR27
        case rbI27 => (simp only [List.getElem?_toArray, List.getElem?_cons_succ, List.getElem?_cons_zero]; exact rfl)
        case rbQ27 => exact fun _ _ _ h => h
        case rbW27 => kernel_rfl
        case rbY27 => (intro W hSw; clear hSw; go_simp; try with_reducible rfl)
        try simp only [Act.put, List.setIfInBounds_toArray, List.set_cons_zero, List.set_cons_succ]
        refine wpAnyH_take (i := 28) (oi := ?rbO28) (v := ?rbV28) ?rbI28 (by kernel_rfl) (by kernel_rfl) (by kernel_rfl) ?rbQ28 (Or.inl ⟨?rbW28, ?rbY28⟩) hHeld ?rbR28
        case rbI28 => (simp only [List.getElem?_toArray, List.getElem?_cons_succ, List.getElem?_cons_zero]; exact rfl)
        case rbQ28 => exact fun _ _ _ h => h
        case rbW28 => kernel_rfl
        case rbY28 => (intro W hSw; obtain ⟨c0, c1, c2⟩ := hSw.q.cells; go_simp; try with_reducible rfl)
        try simp only [Act.put, List.setIfInBounds_toArray, List.set_cons_zero, List.set_cons_succ]
        refine wpAnyH_take (i := 29) (oi := ?rbO29) (v := ?rbV29) ?rbI29 (by kernel_rfl) (by kernel_rfl) (by kernel_rfl) ?rbQ29 (Or.inl ⟨?rbW29, ?rbY29⟩) hHeld ?rbR29
        case rbI29 => (simp only [List.getElem?_toArray, List.getElem?_cons_succ, List.getElem?_cons_zero]; exact rfl)
        case rbQ29 => exact fun _ _ _ h => h
        case rbW29 => kernel_rfl
        case rbY29 => (intro W hSw; obtain ⟨c0, c1, c2⟩ := hSw.y.cells; go_simp; try with_reducible rfl)
        try simp only [Act.put, List.setIfInBounds_toArray, List.set_cons_zero, List.set_cons_succ]
        refine wpAnyH_take (i := 31) (oi := ?rbO31) (v := ?rbV31) ?rbI31 (by kernel_rfl) (by kernel_rfl) (by kernel_rfl) ?rbQ31 (Or.inl ⟨?rbW31, ?rbY31⟩) hHeld ?rbR31
        case rbI31 => (simp only [List.getElem?_toArray, List.getElem?_cons_succ, List.getElem?_cons_zero]; exact rfl)
        case rbQ31 => exact fun _ _ _ h => h
        case rbW31 => kernel_rfl
        case rbY31 => (intro W hSw; obtain ⟨c0, c1, c2⟩ := hSw.x.cells; go_simp; try with_reducible rfl)
        try simp only [Act.put, List.setIfInBounds_toArray, List.set_cons_zero, List.set_cons_succ]
        refine wpAnyH_ready (rs := [30]) (by kernel_rfl) (by simp) ?_
        refine AllReadyH.cons (o := ?rbO30) ?rbI30 (fun K hK => ?rbR30) AllReadyH.nil
        case rbI30 => (simp only [List.getElem?_toArray, List.getElem?_cons_succ, List.getElem?_cons_zero]; exact rfl)
        rw [if_pos (by kernel_rfl)]
        go_simp
        refine (HTQ.out _ (by repeat (first | exact Below.refl _ _ | (with_reducible apply below_drewN) | (with_reducible apply Below.drew)))).mono ?_
        rintro e v3 ⟨n6, A6, l6, k6, x6, rfl, hR, hW⟩
        have hb : Below v2.heap.size v2 v3 := Below.trans (by repeat (first | exact Below.refl _ _ | (with_reducible apply below_drewN) | (with_reducible apply Below.drew))) hW
        have E3 := Lib.hid (E2.out.below hb)
        have R3 := Lib.hid hR
        clear hR hW hb HTQ
        have HCQ := Lib.hid (fun (W : World) (hW : Below v3.heap.size v3 W) => cmp_c 2148 w.heap.size 5000 (numV zq * numV v) (numV u * ((2 ^ 1074 : Nat) : Int)) n6 n1 A6 A1 l6 l1 k6 k1 x6 x1 W (Nat.le_trans E3.out.bel.size hW.size) (R3.out.below hW) ((E3.out.x.2.below hW).raise 1074) (prod_bd HBD.out.2.2.2 HBD.out.2.1) (raise_bd HBD.out.1) (by decide) (by decide)); rw [HT2.out] at HCQ
        go_wp2_with fail
        clear hHeld
        refine hK.out _ _ E3.out (fun hHeld => ?_)
        clear hK K
        try simp only [Act.put, List.setIfInBounds_toArray, List.set_cons_zero, List.set_cons_succ]
        refine wpAnyH_ready (rs := [32]) (by kernel_rfl) (by simp) ?_
        refine AllReadyH.cons (o := ?rbO32) ?rbI32 (fun K hK => ?rbR32) AllReadyH.nil
        case rbI32 => (simp only [List.getElem?_toArray, List.getElem?_cons_succ, List.getElem?_cons_zero]; exact rfl)
        rw [if_pos (by kernel_rfl)]
        go_simp
        refine (HCQ.out _ (by repeat (first | exact Below.refl _ _ | (with_reducible apply below_drewN) | (with_reducible apply Below.drew)))).mono ?_
        rintro e v4 ⟨rfl, hW⟩
        have hb : Below v3.heap.size v3 v4 := Below.trans (by repeat (first | exact Below.refl _ _ | (with_reducible apply below_drewN) | (with_reducible apply Below.drew))) hW
        have E4 := Lib.hid (E3.out.below hb)
        clear hW hb HCQ
        go_wp2_with fail
        clear hHeld
        refine hK.out _ _ E4.out (fun hHeld => ?_)
        clear hK K
        try simp only [Act.put, List.setIfInBounds_toArray, List.set_cons_zero, List.set_cons_succ]
        refine wpAnyH_take (i := 33) (oi := ?rbO33) (v := ?rbV33) ?rbI33 (by kernel_rfl) (by kernel_rfl) (by kernel_rfl) ?rbQ33 (Or.inl ⟨?rbW33, ?rbY33⟩) hHeld ?rbR33
        case rbI33 => (simp only [List.getElem?_toArray, List.getElem?_cons_succ, List.getElem?_cons_zero]; exact rfl)
        case rbQ33 => exact fun _ _ _ h => h
        case rbW33 => kernel_rfl
        case rbY33 => (intro W hSw; clear hSw; go_simp; try with_reducible rfl)
        try simp only [Act.put, List.setIfInBounds_toArray, List.set_cons_zero, List.set_cons_succ]
        refine wpAnyH_take (i := 34) (oi := ?rbO34) (v := ?rbV34) ?rbI34 (by kernel_rfl) (by kernel_rfl) (by kernel_rfl) ?rbQ34 (Or.inl ⟨?rbW34, ?rbY34⟩) hHeld ?rbR34
        case rbI34 => (simp only [List.getElem?_toArray, List.getElem?_cons_succ, List.getElem?_cons_zero]; exact rfl)
        case rbQ34 => exact fun _ _ _ h => h
        case rbW34 => kernel_rfl
        case rbY34 => (intro W hSw; clear hSw; go_simp; try with_reducible rfl)
        try simp only [Act.put, List.setIfInBounds_toArray, List.set_cons_zero, List.set_cons_succ]
        refine wpAnyH_take (i := 35) (oi := ?rbO35) (v := ?rbV35) ?rbI35 (by kernel_rfl) (by kernel_rfl) (by kernel_rfl) ?rbQ35 (Or.inl ⟨?rbW35, ?rbY35⟩) hHeld ?rbR35
        case rbI35 => (simp only [List.getElem?_toArray, List.getElem?_cons_succ, List.getElem?_cons_zero]; exact rfl)
        case rbQ35 => exact fun _ _ _ h => h
        case rbW35 => kernel_rfl
        case rbY35 => (intro W hSw; clear hSw; go_simp; try with_reducible rfl)
        try simp only [Act.put, List.setIfInBounds_toArray, List.set_cons_zero, List.set_cons_succ]
        refine wpAnyH_ready (rs := [36]) (by kernel_rfl) (by simp) ?_
        refine AllReadyH.cons (o := ?rbO36) ?rbI36 (fun K hK => ?rbR36) AllReadyH.nil
        case rbI36 => (simp only [List.getElem?_toArray, List.getElem?_cons_succ, List.getElem?_cons_zero]; exact rfl)
        rw [if_pos (by kernel_rfl)]
        go_simp
        refine (started_calls _).mono ?_
        rintro e v5 ⟨rfl, hW⟩
        have E5 := Lib.hid (E4.out.below (Below.trans (by repeat (first | exact Below.refl _ _ | (with_reducible apply below_drewN) | (with_reducible apply Below.drew))) hW))
        clear hW
        go_wp2_with fail
        clear hHeld
        refine hK.out _ _ E5.out (fun hHeld => ?_)
        clear hK K
        try simp only [Act.put, List.setIfInBounds_toArray, List.set_cons_zero, List.set_cons_succ]
        refine wpAnyH_take (i := 37) (oi := ?rbO37) (v := ?rbV37) ?rbI37 (by kernel_rfl) (by kernel_rfl) (by kernel_rfl) ?rbQ37 (Or.inl ⟨?rbW37, ?rbY37⟩) hHeld ?rbR37
        case rbI37 => (simp only [List.getElem?_toArray, List.getElem?_cons_succ, List.getElem?_cons_zero]; exact rfl)
        case rbQ37 => exact fun _ _ _ h => h
        case rbW37 => kernel_rfl
        case rbY37 => (intro W hSw; clear hSw; go_simp; try with_reducible rfl)
        try simp only [Act.put, List.setIfInBounds_toArray, List.set_cons_zero, List.set_cons_succ]
        refine wpAnyH_take (i := 38) (oi := ?rbO38) (v := ?rbV38) ?rbI38 (by kernel_rfl) (by kernel_rfl) (by kernel_rfl) ?rbQ38 (Or.inl ⟨?rbW38, ?rbY38⟩) hHeld ?rbR38
        case rbI38 => (simp only [List.getElem?_toArray, List.getElem?_cons_succ, List.getElem?_cons_zero]; exact rfl)
        case rbQ38 => exact fun _ _ _ h => h
        case rbW38 => kernel_rfl
        case rbY38 => (intro W hSw; clear hSw; go_simp; try with_reducible rfl)
        try simp only [Act.put, List.setIfInBounds_toArray, List.set_cons_zero, List.set_cons_succ]
        refine wpAnyH_done (by kernel_rfl) ?_ _
        refine NoPanic.normal ?_
        go_wp2
        go_ret
        exact ⟨rfl, E5.out.bel⟩
end Go.Proofs.YtfgdmiigmcnmpaaGreatFmt
