import Derived.Test.YtfgdmiigmcnmpaaGreatFmtKQ23a
set_option linter.unusedVariables false
set_option linter.unusedSimpArgs false
namespace Go.Proofs.YtfgdmiigmcnmpaaGreatFmt
open Go.RowKit
attribute [local go_sem ↓] Go.wp_at_zero Go.wp_at_succ

/-! ### RoundParts, both told (printed by gen_q23.py) -/
set_option exponentiation.threshold 6000 in
set_option maxHeartbeats 8000000 in
set_option maxRecDepth 100000 in
theorem parts_ss (u v : Nat) (hu : u < 18446744073709551616) (hv : v < 18446744073709551616) (s e : Nat) (hp1 : PartF 1 u v s e) (p f : Nat) (hp3 : PartF 3 u v p f) (hfin : (fin u && fin v) = true) (w : World) :
    Calls Tryz.prog 5 #[.float .f64 u, .float .f64 v] w fun e w' => e = .returned (.bool true) ∧ Below w.heap.size w w' := by
  have HS2 := Lib.hid (fun W => rsum2_calls u v hu hv W)
  have HR2 := Lib.hid (fun W => rprod2_calls u v hu hv W)
  have HA := Lib.hid (fun W => radd_calls 0 u v hu hv W)
  have HM := Lib.hid (fun W => rmul_calls 0 u v hu hv W)
  rw [hp1.part] at HS2
  rw [hp1.ask] at HA
  rw [hp3.part] at HR2
  rw [hp3.ask] at HM
  have HX1 := Lib.hid (fun (W : World) (hb : w.heap.size ≤ W.heap.size) => lexact_calls 1 u v w.heap.size hu hv (by decide) W hb)
  rw [hfin, if_pos rfl] at HX1
  have hxb1 := exV_bd 1 hu hv (by decide)
  rw [hfin, if_pos rfl] at hxb1
  have hself1 := hp1.self
  have hne1 := bne_self_f hself1
  have HBD1 := Lib.hid (And.intro (numV_bd hp1.us) (And.intro (numV_bd hp1.ue) (And.intro (sum_bd2 (numV_bd hp1.us) (numV_bd hp1.ue)) hxb1)))
  have HSG1 : Hid (Int.sign ((numV s + numV e) * ((2 ^ 1074 : Nat) : Int) - exS 1 u v) = 0) := by rw [Hid, hp1.sum, Int.sub_self]; rfl
  have HP1 : Hid (PartF 1 u v s e) := hp1
  obtain ⟨X1, hX1⟩ : ∃ X, exS 1 u v = X := ⟨_, rfl⟩
  rw [hX1] at HX1 HBD1 HSG1
  have HX3 := Lib.hid (fun (W : World) (hb : w.heap.size ≤ W.heap.size) => lexact_calls 3 u v w.heap.size hu hv (by decide) W hb)
  rw [hfin, if_pos rfl] at HX3
  have hxb3 := exV_bd 3 hu hv (by decide)
  rw [hfin, if_pos rfl] at hxb3
  have hself3 := hp3.self
  have hne3 := bne_self_f hself3
  have HBD3 := Lib.hid (And.intro (numV_bd hp3.us) (And.intro (numV_bd hp3.ue) (And.intro (sum_bd2 (numV_bd hp3.us) (numV_bd hp3.ue)) hxb3)))
  have HSG3 : Hid (Int.sign ((numV p + numV f) * ((2 ^ 1074 : Nat) : Int) - exS 3 u v) = 0) := by rw [Hid, hp3.sum, Int.sub_self]; rfl
  have HP3 : Hid (PartF 3 u v p f) := hp3
  obtain ⟨X3, hX3⟩ : ∃ X, exS 3 u v = X := ⟨_, rfl⟩
  rw [hX3] at HX3 HBD3 HSG3
  clear hu hv hp1 hxb1 hX1 hp3 hxb3 hX3 hfin
  unfold fRet3 at HS2 HR2
  unfold fRet2 at HA HM
  go_enter Tryz.func5, Tryz.ntmps5
  go_wp2_with fail
  refine (HS2.out _).mono ?_
  rintro e w1 ⟨rfl, hW⟩
  have K1 := Lib.hid hW
  clear hW HS2
  go_wp2_with fail
  refine (HR2.out _).mono ?_
  rintro e w2 ⟨rfl, hW⟩
  have K2 := Lib.hid (below_next K1.out hW)
  clear hW HR2 K1
  go_wp2_with fail
  refine (HA.out _).mono ?_
  rintro e w3 ⟨rfl, hW⟩
  have K3 := Lib.hid (below_next K2.out hW)
  clear hW HA K2
  go_wp2_with fail
  refine (HM.out _).mono ?_
  rintro e w4 ⟨rfl, hW⟩
  have K4 := Lib.hid (below_next K3.out hW)
  clear hW HM K3
  go_wp2_with fail
  refine (lnum_calls s w.heap.size _ HP1.out.us K4.out.size).mono ?_
  rintro e w7a ⟨n1, A1, l1, c1, x1, rfl, hR, hW⟩
  have hB := below_new (Below.refl w7a.heap.size w7a) (.cells #[.bool n1, .slice A1 l1 c1, .int .i64 x1] 25)
  have G1 := Lib.hid (And.intro (NB.new hR) (below_next (below_next K4.out hW) hB))
  clear hR hW hB
  go_wp2_with fail
  refine (lnum_calls e w.heap.size _ HP1.out.ue G1.out.2.size).mono ?_
  rintro e w7b ⟨n2, A2, l2, c2, x2, rfl, hR, hW⟩
  have hB := below_new (Below.refl w7b.heap.size w7b) (.cells #[.bool n2, .slice A2 l2 c2, .int .i64 x2] 25)
  have hb1 := below_next hW hB
  have G2 := Lib.hid (And.intro (G1.out.1.below hb1) (And.intro (NB.new hR) (below_next G1.out.2 hb1)))
  clear hR hW hB hb1 G1
  go_wp2_with fail
  refine (HX1.out _ G2.out.2.2.size).mono ?_
  rintro e w7c ⟨n3, A3, l3, c3, x3, rfl, hR, hW⟩
  have hB := below_new (Below.refl w7c.heap.size w7c) (.cells #[.bool n3, .slice A3 l3 c3, .int .i64 x3] 25)
  have hb1 := below_next hW hB
  have G3 : Hid (Trio w (w7c.alloc (.cells #[.bool n3, .slice A3 l3 c3, .int .i64 x3] 25)) w.heap.size w7a.heap.size w7b.heap.size w7c.heap.size (numV s) (numV e) X1 n1 n2 n3 A1 A2 A3 l1 l2 l3 c1 c2 c3 x1 x2 x3) := ⟨G2.out.1.below hb1, G2.out.2.1.below hb1, ⟨num_blk _ _ _ _ _ _, hR.below hB⟩, below_next G2.out.2.2 hb1⟩
  clear hR hW hB hb1 G2
  go_upto_region 11 with fail
  go_cut [98] (fun s wx => s = .bool false ∧ Hid (Below w.heap.size w wx))
  case first =>
    obtain ⟨v0, hv0⟩ : ∃ W, W = (w7c.alloc (.cells #[.bool n3, .slice A3 l3 c3, .int .i64 x3] 25)) := ⟨_, rfl⟩
    rw [← hv0] at G3 ⊢
    clear hv0
    have HPL := Lib.hid (fun (W : World) (hW : Below v0.heap.size v0 W) => plus_c2 1074 w.heap.size 2098 (numV s) (numV e) n1 n2 A1 A2 l1 l2 c1 c2 x1 x2 W (Nat.le_trans G3.out.bel.size hW.size) (G3.out.x.2.below hW) (G3.out.y.2.below hW) HBD1.out.1 HBD1.out.2.1 (by decide) (by decide))
    refine wp_region_noPanic ?_
    refine wp_region_held_drew (S := (fun wx => Trio w wx w.heap.size w7a.heap.size w7b.heap.size w7c.heap.size (numV s) (numV e) X1 n1 n2 n3 A1 A2 A3 l1 l2 l3 c1 c2 c3 x1 x2 x3)) (by kernel_rfl) (G3.out.below (by repeat (first | exact Below.refl _ _ | (with_reducible apply below_drewN) | (with_reducible apply Below.drew)))) (fun hHeld => ?_)
    change wpAnyH _ _ _ _ _ 6 _ _ _
    refine wpAnyH_take (i := 0) (oi := ?r1O0) (v := ?r1V0) ?r1I0 (by kernel_rfl) (by kernel_rfl) (by kernel_rfl) ?r1Q0 (Or.inl ⟨?r1W0, ?r1Y0⟩) hHeld ?r1R0
    case r1I0 => (simp only [List.getElem?_toArray, List.getElem?_cons_succ, List.getElem?_cons_zero]; exact rfl)
    case r1Q0 => exact fun _ _ _ h => h
    case r1W0 => kernel_rfl
    case r1Y0 => (intro W hSw; obtain ⟨c0, c1, c2⟩ := hSw.x.cells; go_simp; try with_reducible rfl)
    try simp only [Act.put, List.setIfInBounds_toArray, List.set_cons_zero, List.set_cons_succ]
    refine wpAnyH_take (i := 1) (oi := ?r1O1) (v := ?r1V1) ?r1I1 (by kernel_rfl) (by kernel_rfl) (by kernel_rfl) ?r1Q1 (Or.inl ⟨?r1W1, ?r1Y1⟩) hHeld ?r1R1
    case r1I1 => (simp only [List.getElem?_toArray, List.getElem?_cons_succ, List.getElem?_cons_zero]; exact rfl)
    case r1Q1 => exact fun _ _ _ h => h
    case r1W1 => kernel_rfl
    case r1Y1 => (intro W hSw; obtain ⟨c0, c1, c2⟩ := hSw.y.cells; go_simp; try with_reducible rfl)
    try simp only [Act.put, List.setIfInBounds_toArray, List.set_cons_zero, List.set_cons_succ]
    refine wpAnyH_take (i := 3) (oi := ?r1O3) (v := ?r1V3) ?r1I3 (by kernel_rfl) (by kernel_rfl) (by kernel_rfl) ?r1Q3 (Or.inl ⟨?r1W3, ?r1Y3⟩) hHeld ?r1R3
    case r1I3 => (simp only [List.getElem?_toArray, List.getElem?_cons_succ, List.getElem?_cons_zero]; exact rfl)
    case r1Q3 => exact fun _ _ _ h => h
    case r1W3 => kernel_rfl
    case r1Y3 => (intro W hSw; obtain ⟨c0, c1, c2⟩ := (three hSw.v.1).1; go_simp; try with_reducible rfl)
    try simp only [Act.put, List.setIfInBounds_toArray, List.set_cons_zero, List.set_cons_succ]
    refine wpAnyH_ready (rs := [2]) (by kernel_rfl) (by simp) ?_
    refine AllReadyH.cons (o := ?r1O2) ?r1I2 (fun K hK => ?r1R2) AllReadyH.nil
    case r1I2 => (simp only [List.getElem?_toArray, List.getElem?_cons_succ, List.getElem?_cons_zero]; exact rfl)
    rw [if_pos (by kernel_rfl)]
    go_simp
    refine (HPL.out _ (by repeat (first | exact Below.refl _ _ | (with_reducible apply below_drewN) | (with_reducible apply Below.drew)))).mono ?_
    rintro e v1 ⟨n5, A5, l5, c5, x5, rfl, hR, hW⟩
    have hb : Below v0.heap.size v0 v1 := Below.trans (by repeat (first | exact Below.refl _ _ | (with_reducible apply below_drewN) | (with_reducible apply Below.drew))) hW
    have E1 := Lib.hid (G3.out.below hb)
    have HCM := Lib.hid (fun (W : World) (hW : Below v1.heap.size v1 W) => cmp_c 2148 w.heap.size 5000 ((numV s + numV e) * ((2 ^ 1074 : Nat) : Int)) X1 n5 n3 A5 A3 l5 l3 c5 c3 x5 x3 W (Nat.le_trans E1.out.bel.size hW.size) ((hR.below hW).raise 1074) (E1.out.v.2.below hW) HBD1.out.2.2.1 HBD1.out.2.2.2 (by decide) (by decide))
    rw [HSG1.out] at HCM
    clear hR hW hb HPL
    go_wp2_with fail
    clear hHeld
    refine hK.out _ _ E1.out (fun hHeld => ?_)
    clear hK K
    try simp only [Act.put, List.setIfInBounds_toArray, List.set_cons_zero, List.set_cons_succ]
    refine wpAnyH_ready (rs := [4]) (by kernel_rfl) (by simp) ?_
    refine AllReadyH.cons (o := ?r1O4) ?r1I4 (fun K hK => ?r1R4) AllReadyH.nil
    case r1I4 => (simp only [List.getElem?_toArray, List.getElem?_cons_succ, List.getElem?_cons_zero]; exact rfl)
    rw [if_pos (by kernel_rfl)]
    go_simp
    refine (HCM.out _ (by repeat (first | exact Below.refl _ _ | (with_reducible apply below_drewN) | (with_reducible apply Below.drew)))).mono ?_
    rintro e v2 ⟨rfl, hW⟩
    have hb : Below v1.heap.size v1 v2 := Below.trans (by repeat (first | exact Below.refl _ _ | (with_reducible apply below_drewN) | (with_reducible apply Below.drew))) hW
    have E2 := Lib.hid (E1.out.below hb)
    clear hW hb HCM
    go_wp2_with fail
    clear hHeld
    refine hK.out _ _ E2.out (fun hHeld => ?_)
    clear hK K
    try simp only [Act.put, List.setIfInBounds_toArray, List.set_cons_zero, List.set_cons_succ]
    refine wpAnyH_take (i := 5) (oi := ?r1O5) (v := ?r1V5) ?r1I5 (by kernel_rfl) (by kernel_rfl) (by kernel_rfl) ?r1Q5 (Or.inl ⟨?r1W5, ?r1Y5⟩) hHeld ?r1R5
    case r1I5 => (simp only [List.getElem?_toArray, List.getElem?_cons_succ, List.getElem?_cons_zero]; exact rfl)
    case r1Q5 => exact fun _ _ _ h => h
    case r1W5 => kernel_rfl
    case r1Y5 => (intro W hSw; clear hSw; go_simp; try with_reducible rfl)
    try simp only [Act.put, List.setIfInBounds_toArray, List.set_cons_zero, List.set_cons_succ]
    refine wpAnyH_done (by kernel_rfl) ?_ _
    refine NoPanic.normal ?_
    go_wp2_with fail
    go_meet
    exact ⟨rfl, E2.out.bel⟩
  case rest =>
    obtain ⟨rfl, hEn⟩ := hcut
    obtain ⟨v7, rfl⟩ : ∃ wo : World, wo = wc := ⟨_, rfl⟩
    have H7 := Lib.hid hEn.out
    clear hEn
    go_wp2_with fail
    refine (lnum_calls p w.heap.size _ HP3.out.us H7.out.size).mono ?_
    rintro e w8a ⟨n1, A1, l1, c1, x1, rfl, hR, hW⟩
    have hB := below_new (Below.refl w8a.heap.size w8a) (.cells #[.bool n1, .slice A1 l1 c1, .int .i64 x1] 25)
    have G1 := Lib.hid (And.intro (NB.new hR) (below_next (below_next H7.out hW) hB))
    clear hR hW hB
    go_wp2_with fail
    refine (lnum_calls f w.heap.size _ HP3.out.ue G1.out.2.size).mono ?_
    rintro e w8b ⟨n2, A2, l2, c2, x2, rfl, hR, hW⟩
    have hB := below_new (Below.refl w8b.heap.size w8b) (.cells #[.bool n2, .slice A2 l2 c2, .int .i64 x2] 25)
    have hb1 := below_next hW hB
    have G2 := Lib.hid (And.intro (G1.out.1.below hb1) (And.intro (NB.new hR) (below_next G1.out.2 hb1)))
    clear hR hW hB hb1 G1
    go_wp2_with fail
    refine (HX3.out _ G2.out.2.2.size).mono ?_
    rintro e w8c ⟨n3, A3, l3, c3, x3, rfl, hR, hW⟩
    have hB := below_new (Below.refl w8c.heap.size w8c) (.cells #[.bool n3, .slice A3 l3 c3, .int .i64 x3] 25)
    have hb1 := below_next hW hB
    have G3 : Hid (Trio w (w8c.alloc (.cells #[.bool n3, .slice A3 l3 c3, .int .i64 x3] 25)) w.heap.size w8a.heap.size w8b.heap.size w8c.heap.size (numV p) (numV f) X3 n1 n2 n3 A1 A2 A3 l1 l2 l3 c1 c2 c3 x1 x2 x3) := ⟨G2.out.1.below hb1, G2.out.2.1.below hb1, ⟨num_blk _ _ _ _ _ _, hR.below hB⟩, below_next G2.out.2.2 hb1⟩
    clear hR hW hB hb1 G2
    go_upto_region 17 with fail
    go_cut [121] (fun s wx => s = .bool false ∧ Hid (Below w.heap.size w wx))
    case first =>
      obtain ⟨v0, hv0⟩ : ∃ W, W = (w8c.alloc (.cells #[.bool n3, .slice A3 l3 c3, .int .i64 x3] 25)) := ⟨_, rfl⟩
      rw [← hv0] at G3 ⊢
      clear hv0
      have HPL := Lib.hid (fun (W : World) (hW : Below v0.heap.size v0 W) => plus_c2 1074 w.heap.size 2098 (numV p) (numV f) n1 n2 A1 A2 l1 l2 c1 c2 x1 x2 W (Nat.le_trans G3.out.bel.size hW.size) (G3.out.x.2.below hW) (G3.out.y.2.below hW) HBD3.out.1 HBD3.out.2.1 (by decide) (by decide))
      refine wp_region_noPanic ?_
      refine wp_region_held_drew (S := (fun wx => Trio w wx w.heap.size w8a.heap.size w8b.heap.size w8c.heap.size (numV p) (numV f) X3 n1 n2 n3 A1 A2 A3 l1 l2 l3 c1 c2 c3 x1 x2 x3)) (by kernel_rfl) (G3.out.below (by repeat (first | exact Below.refl _ _ | (with_reducible apply below_drewN) | (with_reducible apply Below.drew)))) (fun hHeld => ?_)
      change wpAnyH _ _ _ _ _ 6 _ _ _
      refine wpAnyH_take (i := 0) (oi := ?r3O0) (v := ?r3V0) ?r3I0 (by kernel_rfl) (by kernel_rfl) (by kernel_rfl) ?r3Q0 (Or.inl ⟨?r3W0, ?r3Y0⟩) hHeld ?r3R0
      case r3I0 => (simp only [List.getElem?_toArray, List.getElem?_cons_succ, List.getElem?_cons_zero]; exact rfl)
      case r3Q0 => exact fun _ _ _ h => h
      case r3W0 => kernel_rfl
      case r3Y0 => (intro W hSw; obtain ⟨c0, c1, c2⟩ := hSw.x.cells; go_simp; try with_reducible rfl)
      try simp only [Act.put, List.setIfInBounds_toArray, List.set_cons_zero, List.set_cons_succ]
      refine wpAnyH_take (i := 1) (oi := ?r3O1) (v := ?r3V1) ?r3I1 (by kernel_rfl) (by kernel_rfl) (by kernel_rfl) ?r3Q1 (Or.inl ⟨?r3W1, ?r3Y1⟩) hHeld ?r3R1
      case r3I1 => (simp only [List.getElem?_toArray, List.getElem?_cons_succ, List.getElem?_cons_zero]; exact rfl)
      case r3Q1 => exact fun _ _ _ h => h
      case r3W1 => kernel_rfl
      case r3Y1 => (intro W hSw; obtain ⟨c0, c1, c2⟩ := hSw.y.cells; go_simp; try with_reducible rfl)
      try simp only [Act.put, List.setIfInBounds_toArray, List.set_cons_zero, List.set_cons_succ]
      refine wpAnyH_take (i := 3) (oi := ?r3O3) (v := ?r3V3) ?r3I3 (by kernel_rfl) (by kernel_rfl) (by kernel_rfl) ?r3Q3 (Or.inl ⟨?r3W3, ?r3Y3⟩) hHeld ?r3R3
      case r3I3 => (simp only [List.getElem?_toArray, List.getElem?_cons_succ, List.getElem?_cons_zero]; exact rfl)
      case r3Q3 => exact fun _ _ _ h => h
      case r3W3 => kernel_rfl
      case r3Y3 => (intro W hSw; obtain ⟨c0, c1, c2⟩ := (three hSw.v.1).1; go_simp; try with_reducible rfl)
      try simp only [Act.put, List.setIfInBounds_toArray, List.set_cons_zero, List.set_cons_succ]
      refine wpAnyH_ready (rs := [2]) (by kernel_rfl) (by simp) ?_
      refine AllReadyH.cons (o := ?r3O2) ?r3I2 (fun K hK => ?r3R2) AllReadyH.nil
      case r3I2 => (simp only [List.getElem?_toArray, List.getElem?_cons_succ, List.getElem?_cons_zero]; exact rfl)
      rw [if_pos (by kernel_rfl)]
      go_simp
      refine (HPL.out _ (by repeat (first | exact Below.refl _ _ | (with_reducible apply below_drewN) | (with_reducible apply Below.drew)))).mono ?_
      rintro e v1 ⟨n5, A5, l5, c5, x5, rfl, hR, hW⟩
      have hb : Below v0.heap.size v0 v1 := Below.trans (by repeat (first | exact Below.refl _ _ | (with_reducible apply below_drewN) | (with_reducible apply Below.drew))) hW
      have E1 := Lib.hid (G3.out.below hb)
      have HCM := Lib.hid (fun (W : World) (hW : Below v1.heap.size v1 W) => cmp_c 2148 w.heap.size 5000 ((numV p + numV f) * ((2 ^ 1074 : Nat) : Int)) X3 n5 n3 A5 A3 l5 l3 c5 c3 x5 x3 W (Nat.le_trans E1.out.bel.size hW.size) ((hR.below hW).raise 1074) (E1.out.v.2.below hW) HBD3.out.2.2.1 HBD3.out.2.2.2 (by decide) (by decide))
      rw [HSG3.out] at HCM
      clear hR hW hb HPL
      go_wp2_with fail
      clear hHeld
      refine hK.out _ _ E1.out (fun hHeld => ?_)
      clear hK K
      try simp only [Act.put, List.setIfInBounds_toArray, List.set_cons_zero, List.set_cons_succ]
      refine wpAnyH_ready (rs := [4]) (by kernel_rfl) (by simp) ?_
      refine AllReadyH.cons (o := ?r3O4) ?r3I4 (fun K hK => ?r3R4) AllReadyH.nil
      case r3I4 => (simp only [List.getElem?_toArray, List.getElem?_cons_succ, List.getElem?_cons_zero]; exact rfl)
      rw [if_pos (by kernel_rfl)]
      go_simp
      refine (HCM.out _ (by repeat (first | exact Below.refl _ _ | (with_reducible apply below_drewN) | (with_reducible apply Below.drew)))).mono ?_
      rintro e v2 ⟨rfl, hW⟩
      have hb : Below v1.heap.size v1 v2 := Below.trans (by repeat (first | exact Below.refl _ _ | (with_reducible apply below_drewN) | (with_reducible apply Below.drew))) hW
      have E2 := Lib.hid (E1.out.below hb)
      clear hW hb HCM
      go_wp2_with fail
      clear hHeld
      refine hK.out _ _ E2.out (fun hHeld => ?_)
      clear hK K
      try simp only [Act.put, List.setIfInBounds_toArray, List.set_cons_zero, List.set_cons_succ]
      refine wpAnyH_take (i := 5) (oi := ?r3O5) (v := ?r3V5) ?r3I5 (by kernel_rfl) (by kernel_rfl) (by kernel_rfl) ?r3Q5 (Or.inl ⟨?r3W5, ?r3Y5⟩) hHeld ?r3R5
      case r3I5 => (simp only [List.getElem?_toArray, List.getElem?_cons_succ, List.getElem?_cons_zero]; exact rfl)
      case r3Q5 => exact fun _ _ _ h => h
      case r3W5 => kernel_rfl
      case r3Y5 => (intro W hSw; clear hSw; go_simp; try with_reducible rfl)
      try simp only [Act.put, List.setIfInBounds_toArray, List.set_cons_zero, List.set_cons_succ]
      refine wpAnyH_done (by kernel_rfl) ?_ _
      refine NoPanic.normal ?_
      go_wp2_with fail
      go_meet
      exact ⟨rfl, E2.out.bel⟩
    case rest =>
      obtain ⟨rfl, hEn⟩ := hcut
      obtain ⟨v8, rfl⟩ : ∃ wo : World, wo = wc := ⟨_, rfl⟩
      have H8 := Lib.hid hEn.out
      clear hEn
      go_wp2_with fail
      refine (started_calls _).mono ?_
      rintro e wz ⟨rfl, hW⟩
      have HZ := Lib.hid (below_next H8.out hW)
      clear hW
      go_wp2
      go_ret
      exact ⟨rfl, HZ.out⟩
theorem parts_walk (u v : Nat) (hu : u < 18446744073709551616) (hv : v < 18446744073709551616) (w : World) :
    Calls Tryz.prog 5 #[.float .f64 u, .float .f64 v] w fun e w' => e = .returned (.bool true) ∧ Below w.heap.size w w' := by
  cases hp : pairB 0 u v with
  | false => exact parts_nn u v hu hv (part_false hp) (ask_false hp) (part_false hp) w
  | true =>
    obtain ⟨fu, fv', -, -⟩ := pairB_true hp
    have hfin : (fin u && fin v) = true := by rw [fu, fv']; rfl
    have h1 : (partS 1 u v = none ∧ askS 1 0 u v = none) ∨ ∃ s e, PartF 1 u v s e := by
      cases h0 : rndS 0 2148 (exS 1 u v) with
      | none =>
        left
        rw [part_true hp, ask_true hp]
        refine ⟨?_, h0⟩
        unfold restS; rw [h0, Option.bind_none]
      | some s =>
        right
        have h := sum_left hu hv fu fv' h0
        obtain ⟨⟨a, b⟩, hab⟩ := Option.isSome_iff_exists.1 h
        exact ⟨a, b, part_facts hp hab⟩
    have h3 : partS 3 u v = none ∨ ∃ p f, PartF 3 u v p f := by
      cases h0 : restS 2148 (exS 3 u v) with
      | none => left; rw [part_true hp]; exact h0
      | some q =>
        obtain ⟨a, b⟩ := q
        exact .inr ⟨a, b, part_facts hp h0⟩
    rcases h1 with ⟨h1, h1'⟩ | ⟨s, e, k1⟩
    · rcases h3 with h3 | ⟨p, f, k3⟩
      · exact parts_nn u v hu hv h1 h1' h3 w
      · exact parts_ns u v hu hv h1 h1' p f k3 hfin w
    · rcases h3 with h3 | ⟨p, f, k3⟩
      · exact parts_sn u v hu hv s e k1 h3 hfin w
      · exact parts_ss u v hu hv s e k1 p f k3 hfin w
end Go.Proofs.YtfgdmiigmcnmpaaGreatFmt
