import Derived.Test.YtikdhkmcdmnadaaGreatFmtKV3
import Derived.Deep.RegionHeld
set_option linter.unusedVariables false
set_option linter.unusedSimpArgs false
namespace Go.Proofs.YtikdhkmcdmnadaaGreatFmt
open Go.RowKit
attribute [local go_sem ↓] Go.wp_at_zero Go.wp_at_succ

/-! ### ref4.Same, ambitlaw4.same, ref4.Make (printed by gen_v4.py) -/
structure SmW (w0 w : World) (b1 b2 lo hi : Nat) (b : Bool) : Prop where
  f : Blk w b1 27 [.float .f64 lo, .float .f64 hi, .bool b]
  u : Blk w b2 30 [.int .u64 lo, .int .u64 hi, .bool b]
  bel : Below w0.heap.size w0 w
theorem SmW.below {w0 w w' : World} {b1 b2 lo hi : Nat} {b : Bool} (h : SmW w0 w b1 b2 lo hi b) (hb : Below w.heap.size w w') : SmW w0 w' b1 b2 lo hi b := ⟨h.f.below' hb, h.u.below' hb, below_next h.bel hb⟩
theorem sm_new (w : World) (lo hi : Nat) (b : Bool) : SmW w ((w.alloc (.cells #[.float .f64 lo, .float .f64 hi, .bool b] 27)).alloc (.cells #[.int .u64 lo, .int .u64 hi, .bool b] 30)) w.heap.size (w.heap.size + 1) lo hi b := by
  have h := rs_new (w.alloc (.cells #[.float .f64 lo, .float .f64 hi, .bool b] 27)) lo hi b
  simp only [World.size_alloc] at h
  exact ⟨(sp_new w lo hi b).alloc _, h, below_new (below_new (Below.refl _ _) _) _⟩
set_option maxHeartbeats 4000000 in
set_option maxRecDepth 100000 in
theorem rsame_false (lo hi : Nat) (w : World) :
    Calls Tryz.prog 11 #[.agg #[.float .f64 lo, .float .f64 hi, .bool false], .agg #[.int .u64 lo, .int .u64 hi, .bool false]] w fun e w' => e = .returned (.bool true) ∧ Below w.heap.size w w' := by
  have HL := Lib.hid (fun W => apibits_calls lo W)
  have HH := Lib.hid (fun W => apibits_calls hi W)
  have H0 := Lib.hid (sm_new w lo hi false)
  go_enter Tryz.func11, Tryz.ntmps11
  go_wp2_with fail
  refine wp_region_noPanic ?_
  refine wp_region_held_drew (S := (fun wx => SmW w wx w.heap.size (w.heap.size + 1) lo hi false)) (by kernel_rfl) (H0.out.below (by repeat (first | (with_reducible exact Below.refl _ _) | (with_reducible apply below_drewN) | (with_reducible apply Below.drew) | exact Below.refl _ _))) (fun hHeld => ?_)
  change wpAnyH _ _ _ _ _ 22 _ _ _
  refine wpAnyH_take (i := 0) (oi := ?rgO0) (v := ?rgV0) ?rgI0 (by kernel_rfl) (by kernel_rfl) (by kernel_rfl) ?rgQ0 (Or.inl ⟨?rgW0, ?rgY0⟩) hHeld ?rgR0
  case rgI0 => (simp only [List.getElem?_toArray, List.getElem?_cons_succ, List.getElem?_cons_zero]; exact rfl)
  case rgQ0 => exact fun _ _ _ h => h
  case rgW0 => kernel_rfl
  case rgY0 => (intro W hSw; clear hSw; go_simp; try with_reducible rfl)
  try simp only [Act.put, List.setIfInBounds_toArray, List.set_cons_zero, List.set_cons_succ]
  refine wpAnyH_take (i := 1) (oi := ?rgO1) (v := ?rgV1) ?rgI1 (by kernel_rfl) (by kernel_rfl) (by kernel_rfl) ?rgQ1 (Or.inl ⟨?rgW1, ?rgY1⟩) hHeld ?rgR1
  case rgI1 => (simp only [List.getElem?_toArray, List.getElem?_cons_succ, List.getElem?_cons_zero]; exact rfl)
  case rgQ1 => exact fun _ _ _ h => h
  case rgW1 => kernel_rfl
  case rgY1 => (intro W hSw; obtain ⟨⟨c0, c1, c2⟩, _⟩ := three hSw.f; go_simp; try with_reducible rfl)
  try simp only [Act.put, List.setIfInBounds_toArray, List.set_cons_zero, List.set_cons_succ]
  refine wpAnyH_take (i := 2) (oi := ?rgO2) (v := ?rgV2) ?rgI2 (by kernel_rfl) (by kernel_rfl) (by kernel_rfl) ?rgQ2 (Or.inl ⟨?rgW2, ?rgY2⟩) hHeld ?rgR2
  case rgI2 => (simp only [List.getElem?_toArray, List.getElem?_cons_succ, List.getElem?_cons_zero]; exact rfl)
  case rgQ2 => exact fun _ _ _ h => h
  case rgW2 => kernel_rfl
  case rgY2 => (intro W hSw; clear hSw; go_simp; try with_reducible rfl)
  try simp only [Act.put, List.setIfInBounds_toArray, List.set_cons_zero, List.set_cons_succ]
  refine wpAnyH_take (i := 3) (oi := ?rgO3) (v := ?rgV3) ?rgI3 (by kernel_rfl) (by kernel_rfl) (by kernel_rfl) ?rgQ3 (Or.inl ⟨?rgW3, ?rgY3⟩) hHeld ?rgR3
  case rgI3 => (simp only [List.getElem?_toArray, List.getElem?_cons_succ, List.getElem?_cons_zero]; exact rfl)
  case rgQ3 => exact fun _ _ _ h => h
  case rgW3 => kernel_rfl
  case rgY3 => (intro W hSw; obtain ⟨⟨c0, c1, c2⟩, _⟩ := three hSw.u; go_simp; try with_reducible rfl)
  try simp only [Act.put, List.setIfInBounds_toArray, List.set_cons_zero, List.set_cons_succ]
  refine wpAnyH_take (i := 4) (oi := ?rgO4) (v := ?rgV4) ?rgI4 (by kernel_rfl) (by kernel_rfl) (by kernel_rfl) ?rgQ4 (Or.inl ⟨?rgW4, ?rgY4⟩) hHeld ?rgR4
  case rgI4 => (simp only [List.getElem?_toArray, List.getElem?_cons_succ, List.getElem?_cons_zero]; exact rfl)
  case rgQ4 => exact fun _ _ _ h => h
  case rgW4 => kernel_rfl
  case rgY4 => (intro W hSw; clear hSw; go_simp; try with_reducible rfl)
  try simp only [Act.put, List.setIfInBounds_toArray, List.set_cons_zero, List.set_cons_succ]
  refine wpAnyH_take (i := 5) (oi := ?rgO5) (v := ?rgV5) ?rgI5 (by kernel_rfl) (by kernel_rfl) (by kernel_rfl) ?rgQ5 (Or.inl ⟨?rgW5, ?rgY5⟩) hHeld ?rgR5
  case rgI5 => (simp only [List.getElem?_toArray, List.getElem?_cons_succ, List.getElem?_cons_zero]; exact rfl)
  case rgQ5 => exact fun _ _ _ h => h
  case rgW5 => kernel_rfl
  case rgY5 => (intro W hSw; clear hSw; go_simp; try with_reducible rfl)
  try simp only [Act.put, List.setIfInBounds_toArray, List.set_cons_zero, List.set_cons_succ]
  refine wpAnyH_take (i := 6) (oi := ?rgO6) (v := ?rgV6) ?rgI6 (by kernel_rfl) (by kernel_rfl) (by kernel_rfl) ?rgQ6 (Or.inl ⟨?rgW6, ?rgY6⟩) hHeld ?rgR6
  case rgI6 => (simp only [List.getElem?_toArray, List.getElem?_cons_succ, List.getElem?_cons_zero]; exact rfl)
  case rgQ6 => exact fun _ _ _ h => h
  case rgW6 => kernel_rfl
  case rgY6 => (intro W hSw; clear hSw; go_simp; try with_reducible rfl)
  try simp only [Act.put, List.setIfInBounds_toArray, List.set_cons_zero, List.set_cons_succ]
  refine wpAnyH_take (i := 7) (oi := ?rgO7) (v := ?rgV7) ?rgI7 (by kernel_rfl) (by kernel_rfl) (by kernel_rfl) ?rgQ7 (Or.inl ⟨?rgW7, ?rgY7⟩) hHeld ?rgR7
  case rgI7 => (simp only [List.getElem?_toArray, List.getElem?_cons_succ, List.getElem?_cons_zero]; exact rfl)
  case rgQ7 => exact fun _ _ _ h => h
  case rgW7 => kernel_rfl
  case rgY7 => (intro W hSw; obtain ⟨⟨c0, c1, c2⟩, _⟩ := three hSw.f; go_simp; try with_reducible rfl)
  try simp only [Act.put, List.setIfInBounds_toArray, List.set_cons_zero, List.set_cons_succ]
  refine wpAnyH_take (i := 9) (oi := ?rgO9) (v := ?rgV9) ?rgI9 (by kernel_rfl) (by kernel_rfl) (by kernel_rfl) ?rgQ9 (Or.inl ⟨?rgW9, ?rgY9⟩) hHeld ?rgR9
  case rgI9 => (simp only [List.getElem?_toArray, List.getElem?_cons_succ, List.getElem?_cons_zero]; exact rfl)
  case rgQ9 => exact fun _ _ _ h => h
  case rgW9 => kernel_rfl
  case rgY9 => (intro W hSw; clear hSw; go_simp; try with_reducible rfl)
  try simp only [Act.put, List.setIfInBounds_toArray, List.set_cons_zero, List.set_cons_succ]
  refine wpAnyH_take (i := 10) (oi := ?rgO10) (v := ?rgV10) ?rgI10 (by kernel_rfl) (by kernel_rfl) (by kernel_rfl) ?rgQ10 (Or.inl ⟨?rgW10, ?rgY10⟩) hHeld ?rgR10
  case rgI10 => (simp only [List.getElem?_toArray, List.getElem?_cons_succ, List.getElem?_cons_zero]; exact rfl)
  case rgQ10 => exact fun _ _ _ h => h
  case rgW10 => kernel_rfl
  case rgY10 => (intro W hSw; obtain ⟨⟨c0, c1, c2⟩, _⟩ := three hSw.u; go_simp; try with_reducible rfl)
  try simp only [Act.put, List.setIfInBounds_toArray, List.set_cons_zero, List.set_cons_succ]
  refine wpAnyH_ready (rs := [8]) (by kernel_rfl) (by simp) ?_
  refine AllReadyH.cons (o := ?rgO8) ?rgI8 (fun K hK => ?rgR8) AllReadyH.nil
  case rgI8 => (simp only [List.getElem?_toArray, List.getElem?_cons_succ, List.getElem?_cons_zero]; exact rfl)
  rw [if_pos (by kernel_rfl)]
  go_simp
  refine (HL.out _).mono ?_
  rintro e w' ⟨rfl, rfl⟩
  go_wp2_with fail
  clear hHeld
  refine hK.out _ _ (H0.out.below (by repeat (first | (with_reducible exact Below.refl _ _) | (with_reducible apply below_drewN) | (with_reducible apply Below.drew) | exact Below.refl _ _))) (fun hHeld => ?_)
  clear hK K
  try simp only [Act.put, List.setIfInBounds_toArray, List.set_cons_zero, List.set_cons_succ]
  refine wpAnyH_take (i := 11) (oi := ?rgO11) (v := ?rgV11) ?rgI11 (by kernel_rfl) (by kernel_rfl) (by kernel_rfl) ?rgQ11 (Or.inl ⟨?rgW11, ?rgY11⟩) hHeld ?rgR11
  case rgI11 => (simp only [List.getElem?_toArray, List.getElem?_cons_succ, List.getElem?_cons_zero]; exact rfl)
  case rgQ11 => exact fun _ _ _ h => h
  case rgW11 => kernel_rfl
  case rgY11 => (intro W hSw; clear hSw; go_simp; try with_reducible rfl)
  try simp only [Act.put, List.setIfInBounds_toArray, List.set_cons_zero, List.set_cons_succ]
  refine wpAnyH_take (i := 12) (oi := ?rgO12) (v := ?rgV12) ?rgI12 (by kernel_rfl) (by kernel_rfl) (by kernel_rfl) ?rgQ12 (Or.inl ⟨?rgW12, ?rgY12⟩) hHeld ?rgR12
  case rgI12 => (simp only [List.getElem?_toArray, List.getElem?_cons_succ, List.getElem?_cons_zero]; exact rfl)
  case rgQ12 => exact fun _ _ _ h => h
  case rgW12 => kernel_rfl
  case rgY12 => (intro W hSw; clear hSw; go_simp; try with_reducible rfl)
  try simp only [Act.put, List.setIfInBounds_toArray, List.set_cons_zero, List.set_cons_succ]
  refine wpAnyH_take (i := 13) (oi := ?rgO13) (v := ?rgV13) ?rgI13 (by kernel_rfl) (by kernel_rfl) (by kernel_rfl) ?rgQ13 (Or.inl ⟨?rgW13, ?rgY13⟩) hHeld ?rgR13
  case rgI13 => (simp only [List.getElem?_toArray, List.getElem?_cons_succ, List.getElem?_cons_zero]; exact rfl)
  case rgQ13 => exact fun _ _ _ h => h
  case rgW13 => kernel_rfl
  case rgY13 => (intro W hSw; clear hSw; go_simp; try with_reducible rfl)
  try simp only [Act.put, List.setIfInBounds_toArray, List.set_cons_zero, List.set_cons_succ]
  refine wpAnyH_take (i := 14) (oi := ?rgO14) (v := ?rgV14) ?rgI14 (by kernel_rfl) (by kernel_rfl) (by kernel_rfl) ?rgQ14 (Or.inl ⟨?rgW14, ?rgY14⟩) hHeld ?rgR14
  case rgI14 => (simp only [List.getElem?_toArray, List.getElem?_cons_succ, List.getElem?_cons_zero]; exact rfl)
  case rgQ14 => exact fun _ _ _ h => h
  case rgW14 => kernel_rfl
  case rgY14 => (intro W hSw; clear hSw; go_simp; try with_reducible rfl)
  try simp only [Act.put, List.setIfInBounds_toArray, List.set_cons_zero, List.set_cons_succ]
  refine wpAnyH_take (i := 15) (oi := ?rgO15) (v := ?rgV15) ?rgI15 (by kernel_rfl) (by kernel_rfl) (by kernel_rfl) ?rgQ15 (Or.inl ⟨?rgW15, ?rgY15⟩) hHeld ?rgR15
  case rgI15 => (simp only [List.getElem?_toArray, List.getElem?_cons_succ, List.getElem?_cons_zero]; exact rfl)
  case rgQ15 => exact fun _ _ _ h => h
  case rgW15 => kernel_rfl
  case rgY15 => (intro W hSw; obtain ⟨⟨c0, c1, c2⟩, _⟩ := three hSw.f; go_simp; try with_reducible rfl)
  try simp only [Act.put, List.setIfInBounds_toArray, List.set_cons_zero, List.set_cons_succ]
  refine wpAnyH_take (i := 17) (oi := ?rgO17) (v := ?rgV17) ?rgI17 (by kernel_rfl) (by kernel_rfl) (by kernel_rfl) ?rgQ17 (Or.inl ⟨?rgW17, ?rgY17⟩) hHeld ?rgR17
  case rgI17 => (simp only [List.getElem?_toArray, List.getElem?_cons_succ, List.getElem?_cons_zero]; exact rfl)
  case rgQ17 => exact fun _ _ _ h => h
  case rgW17 => kernel_rfl
  case rgY17 => (intro W hSw; clear hSw; go_simp; try with_reducible rfl)
  try simp only [Act.put, List.setIfInBounds_toArray, List.set_cons_zero, List.set_cons_succ]
  refine wpAnyH_take (i := 18) (oi := ?rgO18) (v := ?rgV18) ?rgI18 (by kernel_rfl) (by kernel_rfl) (by kernel_rfl) ?rgQ18 (Or.inl ⟨?rgW18, ?rgY18⟩) hHeld ?rgR18
  case rgI18 => (simp only [List.getElem?_toArray, List.getElem?_cons_succ, List.getElem?_cons_zero]; exact rfl)
  case rgQ18 => exact fun _ _ _ h => h
  case rgW18 => kernel_rfl
  case rgY18 => (intro W hSw; obtain ⟨⟨c0, c1, c2⟩, _⟩ := three hSw.u; go_simp; try with_reducible rfl)
  try simp only [Act.put, List.setIfInBounds_toArray, List.set_cons_zero, List.set_cons_succ]
  refine wpAnyH_ready (rs := [16]) (by kernel_rfl) (by simp) ?_
  refine AllReadyH.cons (o := ?rgO16) ?rgI16 (fun K hK => ?rgR16) AllReadyH.nil
  case rgI16 => (simp only [List.getElem?_toArray, List.getElem?_cons_succ, List.getElem?_cons_zero]; exact rfl)
  rw [if_pos (by kernel_rfl)]
  go_simp
  refine (HH.out _).mono ?_
  rintro e w' ⟨rfl, rfl⟩
  go_wp2_with fail
  clear hHeld
  refine hK.out _ _ (H0.out.below (by repeat (first | (with_reducible exact Below.refl _ _) | (with_reducible apply below_drewN) | (with_reducible apply Below.drew) | exact Below.refl _ _))) (fun hHeld => ?_)
  clear hK K
  try simp only [Act.put, List.setIfInBounds_toArray, List.set_cons_zero, List.set_cons_succ]
  refine wpAnyH_take (i := 19) (oi := ?rgO19) (v := ?rgV19) ?rgI19 (by kernel_rfl) (by kernel_rfl) (by kernel_rfl) ?rgQ19 (Or.inl ⟨?rgW19, ?rgY19⟩) hHeld ?rgR19
  case rgI19 => (simp only [List.getElem?_toArray, List.getElem?_cons_succ, List.getElem?_cons_zero]; exact rfl)
  case rgQ19 => exact fun _ _ _ h => h
  case rgW19 => kernel_rfl
  case rgY19 => (intro W hSw; clear hSw; go_simp; try with_reducible rfl)
  try simp only [Act.put, List.setIfInBounds_toArray, List.set_cons_zero, List.set_cons_succ]
  refine wpAnyH_take (i := 20) (oi := ?rgO20) (v := ?rgV20) ?rgI20 (by kernel_rfl) (by kernel_rfl) (by kernel_rfl) ?rgQ20 (Or.inl ⟨?rgW20, ?rgY20⟩) hHeld ?rgR20
  case rgI20 => (simp only [List.getElem?_toArray, List.getElem?_cons_succ, List.getElem?_cons_zero]; exact rfl)
  case rgQ20 => exact fun _ _ _ h => h
  case rgW20 => kernel_rfl
  case rgY20 => (intro W hSw; clear hSw; go_simp; try with_reducible rfl)
  try simp only [Act.put, List.setIfInBounds_toArray, List.set_cons_zero, List.set_cons_succ]
  refine wpAnyH_take (i := 21) (oi := ?rgO21) (v := ?rgV21) ?rgI21 (by kernel_rfl) (by kernel_rfl) (by kernel_rfl) ?rgQ21 (Or.inl ⟨?rgW21, ?rgY21⟩) hHeld ?rgR21
  case rgI21 => (simp only [List.getElem?_toArray, List.getElem?_cons_succ, List.getElem?_cons_zero]; exact rfl)
  case rgQ21 => exact fun _ _ _ h => h
  case rgW21 => kernel_rfl
  case rgY21 => (intro W hSw; clear hSw; go_simp; try with_reducible rfl)
  try simp only [Act.put, List.setIfInBounds_toArray, List.set_cons_zero, List.set_cons_succ]
  refine wpAnyH_done (by kernel_rfl) ?_ _
  refine NoPanic.normal ?_
  go_wp2
  go_ret
  exact ⟨rfl, (H0.out.below (by repeat (first | (with_reducible exact Below.refl _ _) | (with_reducible apply below_drewN) | (with_reducible apply Below.drew) | exact Below.refl _ _))).bel⟩
set_option maxHeartbeats 4000000 in
set_option maxRecDepth 100000 in
theorem rsame_true (lo hi : Nat) (w : World) :
    Calls Tryz.prog 11 #[.agg #[.float .f64 lo, .float .f64 hi, .bool true], .agg #[.int .u64 lo, .int .u64 hi, .bool true]] w fun e w' => e = .returned (.bool true) ∧ Below w.heap.size w w' := by
  have HL := Lib.hid (fun W => apibits_calls lo W)
  have HH := Lib.hid (fun W => apibits_calls hi W)
  have H0 := Lib.hid (sm_new w lo hi true)
  go_enter Tryz.func11, Tryz.ntmps11
  go_wp2_with fail
  refine wp_region_noPanic ?_
  refine wp_region_held_drew (S := (fun wx => SmW w wx w.heap.size (w.heap.size + 1) lo hi true)) (by kernel_rfl) (H0.out.below (by repeat (first | (with_reducible exact Below.refl _ _) | (with_reducible apply below_drewN) | (with_reducible apply Below.drew) | exact Below.refl _ _))) (fun hHeld => ?_)
  change wpAnyH _ _ _ _ _ 22 _ _ _
  refine wpAnyH_take (i := 0) (oi := ?rgO0) (v := ?rgV0) ?rgI0 (by kernel_rfl) (by kernel_rfl) (by kernel_rfl) ?rgQ0 (Or.inl ⟨?rgW0, ?rgY0⟩) hHeld ?rgR0
  case rgI0 => (simp only [List.getElem?_toArray, List.getElem?_cons_succ, List.getElem?_cons_zero]; exact rfl)
  case rgQ0 => exact fun _ _ _ h => h
  case rgW0 => kernel_rfl
  case rgY0 => (intro W hSw; clear hSw; go_simp; try with_reducible rfl)
  try simp only [Act.put, List.setIfInBounds_toArray, List.set_cons_zero, List.set_cons_succ]
  refine wpAnyH_take (i := 1) (oi := ?rgO1) (v := ?rgV1) ?rgI1 (by kernel_rfl) (by kernel_rfl) (by kernel_rfl) ?rgQ1 (Or.inl ⟨?rgW1, ?rgY1⟩) hHeld ?rgR1
  case rgI1 => (simp only [List.getElem?_toArray, List.getElem?_cons_succ, List.getElem?_cons_zero]; exact rfl)
  case rgQ1 => exact fun _ _ _ h => h
  case rgW1 => kernel_rfl
  case rgY1 => (intro W hSw; obtain ⟨⟨c0, c1, c2⟩, _⟩ := three hSw.f; go_simp; try with_reducible rfl)
  try simp only [Act.put, List.setIfInBounds_toArray, List.set_cons_zero, List.set_cons_succ]
  refine wpAnyH_take (i := 2) (oi := ?rgO2) (v := ?rgV2) ?rgI2 (by kernel_rfl) (by kernel_rfl) (by kernel_rfl) ?rgQ2 (Or.inl ⟨?rgW2, ?rgY2⟩) hHeld ?rgR2
  case rgI2 => (simp only [List.getElem?_toArray, List.getElem?_cons_succ, List.getElem?_cons_zero]; exact rfl)
  case rgQ2 => exact fun _ _ _ h => h
  case rgW2 => kernel_rfl
  case rgY2 => (intro W hSw; clear hSw; go_simp; try with_reducible rfl)
  try simp only [Act.put, List.setIfInBounds_toArray, List.set_cons_zero, List.set_cons_succ]
  refine wpAnyH_take (i := 3) (oi := ?rgO3) (v := ?rgV3) ?rgI3 (by kernel_rfl) (by kernel_rfl) (by kernel_rfl) ?rgQ3 (Or.inl ⟨?rgW3, ?rgY3⟩) hHeld ?rgR3
  case rgI3 => (simp only [List.getElem?_toArray, List.getElem?_cons_succ, List.getElem?_cons_zero]; exact rfl)
  case rgQ3 => exact fun _ _ _ h => h
  case rgW3 => kernel_rfl
  case rgY3 => (intro W hSw; obtain ⟨⟨c0, c1, c2⟩, _⟩ := three hSw.u; go_simp; try with_reducible rfl)
  try simp only [Act.put, List.setIfInBounds_toArray, List.set_cons_zero, List.set_cons_succ]
  refine wpAnyH_take (i := 4) (oi := ?rgO4) (v := ?rgV4) ?rgI4 (by kernel_rfl) (by kernel_rfl) (by kernel_rfl) ?rgQ4 (Or.inl ⟨?rgW4, ?rgY4⟩) hHeld ?rgR4
  case rgI4 => (simp only [List.getElem?_toArray, List.getElem?_cons_succ, List.getElem?_cons_zero]; exact rfl)
  case rgQ4 => exact fun _ _ _ h => h
  case rgW4 => kernel_rfl
  case rgY4 => (intro W hSw; clear hSw; go_simp; try with_reducible rfl)
  try simp only [Act.put, List.setIfInBounds_toArray, List.set_cons_zero, List.set_cons_succ]
  refine wpAnyH_take (i := 5) (oi := ?rgO5) (v := ?rgV5) ?rgI5 (by kernel_rfl) (by kernel_rfl) (by kernel_rfl) ?rgQ5 (Or.inl ⟨?rgW5, ?rgY5⟩) hHeld ?rgR5
  case rgI5 => (simp only [List.getElem?_toArray, List.getElem?_cons_succ, List.getElem?_cons_zero]; exact rfl)
  case rgQ5 => exact fun _ _ _ h => h
  case rgW5 => kernel_rfl
  case rgY5 => (intro W hSw; clear hSw; go_simp; try with_reducible rfl)
  try simp only [Act.put, List.setIfInBounds_toArray, List.set_cons_zero, List.set_cons_succ]
  refine wpAnyH_take (i := 6) (oi := ?rgO6) (v := ?rgV6) ?rgI6 (by kernel_rfl) (by kernel_rfl) (by kernel_rfl) ?rgQ6 (Or.inl ⟨?rgW6, ?rgY6⟩) hHeld ?rgR6
  case rgI6 => (simp only [List.getElem?_toArray, List.getElem?_cons_succ, List.getElem?_cons_zero]; exact rfl)
  case rgQ6 => exact fun _ _ _ h => h
  case rgW6 => kernel_rfl
  case rgY6 => (intro W hSw; clear hSw; go_simp; try with_reducible rfl)
  try simp only [Act.put, List.setIfInBounds_toArray, List.set_cons_zero, List.set_cons_succ]
  refine wpAnyH_take (i := 7) (oi := ?rgO7) (v := ?rgV7) ?rgI7 (by kernel_rfl) (by kernel_rfl) (by kernel_rfl) ?rgQ7 (Or.inl ⟨?rgW7, ?rgY7⟩) hHeld ?rgR7
  case rgI7 => (simp only [List.getElem?_toArray, List.getElem?_cons_succ, List.getElem?_cons_zero]; exact rfl)
  case rgQ7 => exact fun _ _ _ h => h
  case rgW7 => kernel_rfl
  case rgY7 => (intro W hSw; obtain ⟨⟨c0, c1, c2⟩, _⟩ := three hSw.f; go_simp; try with_reducible rfl)
  try simp only [Act.put, List.setIfInBounds_toArray, List.set_cons_zero, List.set_cons_succ]
  refine wpAnyH_take (i := 9) (oi := ?rgO9) (v := ?rgV9) ?rgI9 (by kernel_rfl) (by kernel_rfl) (by kernel_rfl) ?rgQ9 (Or.inl ⟨?rgW9, ?rgY9⟩) hHeld ?rgR9
  case rgI9 => (simp only [List.getElem?_toArray, List.getElem?_cons_succ, List.getElem?_cons_zero]; exact rfl)
  case rgQ9 => exact fun _ _ _ h => h
  case rgW9 => kernel_rfl
  case rgY9 => (intro W hSw; clear hSw; go_simp; try with_reducible rfl)
  try simp only [Act.put, List.setIfInBounds_toArray, List.set_cons_zero, List.set_cons_succ]
  refine wpAnyH_take (i := 10) (oi := ?rgO10) (v := ?rgV10) ?rgI10 (by kernel_rfl) (by kernel_rfl) (by kernel_rfl) ?rgQ10 (Or.inl ⟨?rgW10, ?rgY10⟩) hHeld ?rgR10
  case rgI10 => (simp only [List.getElem?_toArray, List.getElem?_cons_succ, List.getElem?_cons_zero]; exact rfl)
  case rgQ10 => exact fun _ _ _ h => h
  case rgW10 => kernel_rfl
  case rgY10 => (intro W hSw; obtain ⟨⟨c0, c1, c2⟩, _⟩ := three hSw.u; go_simp; try with_reducible rfl)
  try simp only [Act.put, List.setIfInBounds_toArray, List.set_cons_zero, List.set_cons_succ]
  refine wpAnyH_ready (rs := [8]) (by kernel_rfl) (by simp) ?_
  refine AllReadyH.cons (o := ?rgO8) ?rgI8 (fun K hK => ?rgR8) AllReadyH.nil
  case rgI8 => (simp only [List.getElem?_toArray, List.getElem?_cons_succ, List.getElem?_cons_zero]; exact rfl)
  rw [if_pos (by kernel_rfl)]
  go_simp
  refine (HL.out _).mono ?_
  rintro e w' ⟨rfl, rfl⟩
  go_wp2_with fail
  clear hHeld
  refine hK.out _ _ (H0.out.below (by repeat (first | (with_reducible exact Below.refl _ _) | (with_reducible apply below_drewN) | (with_reducible apply Below.drew) | exact Below.refl _ _))) (fun hHeld => ?_)
  clear hK K
  try simp only [Act.put, List.setIfInBounds_toArray, List.set_cons_zero, List.set_cons_succ]
  refine wpAnyH_take (i := 11) (oi := ?rgO11) (v := ?rgV11) ?rgI11 (by kernel_rfl) (by kernel_rfl) (by kernel_rfl) ?rgQ11 (Or.inl ⟨?rgW11, ?rgY11⟩) hHeld ?rgR11
  case rgI11 => (simp only [List.getElem?_toArray, List.getElem?_cons_succ, List.getElem?_cons_zero]; exact rfl)
  case rgQ11 => exact fun _ _ _ h => h
  case rgW11 => kernel_rfl
  case rgY11 => (intro W hSw; clear hSw; go_simp; try with_reducible rfl)
  try simp only [Act.put, List.setIfInBounds_toArray, List.set_cons_zero, List.set_cons_succ]
  refine wpAnyH_take (i := 12) (oi := ?rgO12) (v := ?rgV12) ?rgI12 (by kernel_rfl) (by kernel_rfl) (by kernel_rfl) ?rgQ12 (Or.inl ⟨?rgW12, ?rgY12⟩) hHeld ?rgR12
  case rgI12 => (simp only [List.getElem?_toArray, List.getElem?_cons_succ, List.getElem?_cons_zero]; exact rfl)
  case rgQ12 => exact fun _ _ _ h => h
  case rgW12 => kernel_rfl
  case rgY12 => (intro W hSw; clear hSw; go_simp; try with_reducible rfl)
  try simp only [Act.put, List.setIfInBounds_toArray, List.set_cons_zero, List.set_cons_succ]
  refine wpAnyH_take (i := 13) (oi := ?rgO13) (v := ?rgV13) ?rgI13 (by kernel_rfl) (by kernel_rfl) (by kernel_rfl) ?rgQ13 (Or.inl ⟨?rgW13, ?rgY13⟩) hHeld ?rgR13
  case rgI13 => (simp only [List.getElem?_toArray, List.getElem?_cons_succ, List.getElem?_cons_zero]; exact rfl)
  case rgQ13 => exact fun _ _ _ h => h
  case rgW13 => kernel_rfl
  case rgY13 => (intro W hSw; clear hSw; go_simp; try with_reducible rfl)
  try simp only [Act.put, List.setIfInBounds_toArray, List.set_cons_zero, List.set_cons_succ]
  refine wpAnyH_take (i := 14) (oi := ?rgO14) (v := ?rgV14) ?rgI14 (by kernel_rfl) (by kernel_rfl) (by kernel_rfl) ?rgQ14 (Or.inl ⟨?rgW14, ?rgY14⟩) hHeld ?rgR14
  case rgI14 => (simp only [List.getElem?_toArray, List.getElem?_cons_succ, List.getElem?_cons_zero]; exact rfl)
  case rgQ14 => exact fun _ _ _ h => h
  case rgW14 => kernel_rfl
  case rgY14 => (intro W hSw; clear hSw; go_simp; try with_reducible rfl)
  try simp only [Act.put, List.setIfInBounds_toArray, List.set_cons_zero, List.set_cons_succ]
  refine wpAnyH_take (i := 15) (oi := ?rgO15) (v := ?rgV15) ?rgI15 (by kernel_rfl) (by kernel_rfl) (by kernel_rfl) ?rgQ15 (Or.inl ⟨?rgW15, ?rgY15⟩) hHeld ?rgR15
  case rgI15 => (simp only [List.getElem?_toArray, List.getElem?_cons_succ, List.getElem?_cons_zero]; exact rfl)
  case rgQ15 => exact fun _ _ _ h => h
  case rgW15 => kernel_rfl
  case rgY15 => (intro W hSw; obtain ⟨⟨c0, c1, c2⟩, _⟩ := three hSw.f; go_simp; try with_reducible rfl)
  try simp only [Act.put, List.setIfInBounds_toArray, List.set_cons_zero, List.set_cons_succ]
  refine wpAnyH_take (i := 17) (oi := ?rgO17) (v := ?rgV17) ?rgI17 (by kernel_rfl) (by kernel_rfl) (by kernel_rfl) ?rgQ17 (Or.inl ⟨?rgW17, ?rgY17⟩) hHeld ?rgR17
  case rgI17 => (simp only [List.getElem?_toArray, List.getElem?_cons_succ, List.getElem?_cons_zero]; exact rfl)
  case rgQ17 => exact fun _ _ _ h => h
  case rgW17 => kernel_rfl
  case rgY17 => (intro W hSw; clear hSw; go_simp; try with_reducible rfl)
  try simp only [Act.put, List.setIfInBounds_toArray, List.set_cons_zero, List.set_cons_succ]
  refine wpAnyH_take (i := 18) (oi := ?rgO18) (v := ?rgV18) ?rgI18 (by kernel_rfl) (by kernel_rfl) (by kernel_rfl) ?rgQ18 (Or.inl ⟨?rgW18, ?rgY18⟩) hHeld ?rgR18
  case rgI18 => (simp only [List.getElem?_toArray, List.getElem?_cons_succ, List.getElem?_cons_zero]; exact rfl)
  case rgQ18 => exact fun _ _ _ h => h
  case rgW18 => kernel_rfl
  case rgY18 => (intro W hSw; obtain ⟨⟨c0, c1, c2⟩, _⟩ := three hSw.u; go_simp; try with_reducible rfl)
  try simp only [Act.put, List.setIfInBounds_toArray, List.set_cons_zero, List.set_cons_succ]
  refine wpAnyH_ready (rs := [16]) (by kernel_rfl) (by simp) ?_
  refine AllReadyH.cons (o := ?rgO16) ?rgI16 (fun K hK => ?rgR16) AllReadyH.nil
  case rgI16 => (simp only [List.getElem?_toArray, List.getElem?_cons_succ, List.getElem?_cons_zero]; exact rfl)
  rw [if_pos (by kernel_rfl)]
  go_simp
  refine (HH.out _).mono ?_
  rintro e w' ⟨rfl, rfl⟩
  go_wp2_with fail
  clear hHeld
  refine hK.out _ _ (H0.out.below (by repeat (first | (with_reducible exact Below.refl _ _) | (with_reducible apply below_drewN) | (with_reducible apply Below.drew) | exact Below.refl _ _))) (fun hHeld => ?_)
  clear hK K
  try simp only [Act.put, List.setIfInBounds_toArray, List.set_cons_zero, List.set_cons_succ]
  refine wpAnyH_take (i := 19) (oi := ?rgO19) (v := ?rgV19) ?rgI19 (by kernel_rfl) (by kernel_rfl) (by kernel_rfl) ?rgQ19 (Or.inl ⟨?rgW19, ?rgY19⟩) hHeld ?rgR19
  case rgI19 => (simp only [List.getElem?_toArray, List.getElem?_cons_succ, List.getElem?_cons_zero]; exact rfl)
  case rgQ19 => exact fun _ _ _ h => h
  case rgW19 => kernel_rfl
  case rgY19 => (intro W hSw; clear hSw; go_simp; try with_reducible rfl)
  try simp only [Act.put, List.setIfInBounds_toArray, List.set_cons_zero, List.set_cons_succ]
  refine wpAnyH_take (i := 20) (oi := ?rgO20) (v := ?rgV20) ?rgI20 (by kernel_rfl) (by kernel_rfl) (by kernel_rfl) ?rgQ20 (Or.inl ⟨?rgW20, ?rgY20⟩) hHeld ?rgR20
  case rgI20 => (simp only [List.getElem?_toArray, List.getElem?_cons_succ, List.getElem?_cons_zero]; exact rfl)
  case rgQ20 => exact fun _ _ _ h => h
  case rgW20 => kernel_rfl
  case rgY20 => (intro W hSw; clear hSw; go_simp; try with_reducible rfl)
  try simp only [Act.put, List.setIfInBounds_toArray, List.set_cons_zero, List.set_cons_succ]
  refine wpAnyH_take (i := 21) (oi := ?rgO21) (v := ?rgV21) ?rgI21 (by kernel_rfl) (by kernel_rfl) (by kernel_rfl) ?rgQ21 (Or.inl ⟨?rgW21, ?rgY21⟩) hHeld ?rgR21
  case rgI21 => (simp only [List.getElem?_toArray, List.getElem?_cons_succ, List.getElem?_cons_zero]; exact rfl)
  case rgQ21 => exact fun _ _ _ h => h
  case rgW21 => kernel_rfl
  case rgY21 => (intro W hSw; clear hSw; go_simp; try with_reducible rfl)
  try simp only [Act.put, List.setIfInBounds_toArray, List.set_cons_zero, List.set_cons_succ]
  refine wpAnyH_done (by kernel_rfl) ?_ _
  refine NoPanic.normal ?_
  go_wp2
  go_ret
  exact ⟨rfl, (H0.out.below (by repeat (first | (with_reducible exact Below.refl _ _) | (with_reducible apply below_drewN) | (with_reducible apply Below.drew) | exact Below.refl _ _))).bel⟩
theorem rsame_calls (lo hi : Nat) (b : Bool) (w : World) :
    Calls Tryz.prog 11 #[.agg #[.float .f64 lo, .float .f64 hi, .bool b], .agg #[.int .u64 lo, .int .u64 hi, .bool b]] w fun e w' => e = .returned (.bool true) ∧ Below w.heap.size w w' := by
  cases b
  · exact rsame_false lo hi w
  · exact rsame_true lo hi w
set_option maxHeartbeats 1000000 in
set_option maxRecDepth 100000 in
theorem lsame_calls (s : Sp) (w : World) :
    Calls Tryz.prog 5 #[spV s, rpV s] w fun e w' => e = .returned (.bool true) ∧ Below w.heap.size w w' := by
  obtain ⟨lo, hi, b⟩ := s
  have H0 := Lib.hid (sm_new w lo hi b)
  have HS := Lib.hid (fun W => rsame_calls lo hi b W)
  unfold spV rpV
  obtain ⟨⟨a0, a1, a2⟩, _⟩ := three H0.out.f
  obtain ⟨⟨m0, m1, m2⟩, _⟩ := three H0.out.u
  go_enter Tryz.func5, Tryz.ntmps5
  go_wp2_with fail
  refine (HS.out _).mono ?_
  rintro e w1 ⟨rfl, hW⟩
  have H1 := Lib.hid (below_next H0.out.bel hW)
  clear hW
  go_wp2
  go_ret
  exact ⟨rfl, H1.out⟩
theorem rnd_own {d : Int} {u : Nat} (hu : u < 18446744073709551616) (hf : fin u = true) : rndS d 1075 (numV u * ((2 ^ 1 : Nat) : Int)) = some (nrm u) := by
  have e : numV u = fv u := by unfold numV; rw [hf, if_pos rfl]
  obtain ⟨h1, h2⟩ := word_of hu hf
  have h3 := fv_word (neg := fneg u) h2
  rw [← h1] at h3
  rw [e, h3]
  exact rndS_word (K := 1075) (by decide) d (fneg u) h2
theorem le_nrm {lo hi : Nat} (hl : lo < 18446744073709551616) (hh : hi < 18446744073709551616) (fl : fin lo = true) (fh : fin hi = true) : leF (nrm lo) (nrm hi) = leF lo hi := by
  obtain ⟨a1, a2⟩ := nrm_lt hl fl
  obtain ⟨b1, b2⟩ := nrm_lt hh fh
  have va : ∀ {u : Nat}, u < 18446744073709551616 → fin u = true → fv (nrm u) = fv u := by
    intro u hu hf
    obtain ⟨h1, h2⟩ := word_of hu hf
    have h3 := fv_word (neg := fneg u) h2
    rw [← h1] at h3
    rw [h3]
    have e : nrm u = wordR (fneg u && decide (0 < uabs u)) (uabs u) := rfl
    rw [e, fv_word h2]
    by_cases h0 : 0 < uabs u
    · rw [decide_eq_true h0, Bool.and_true]
    · have : uabs u = 0 := by omega
      rw [this, rv_zero]; cases fneg u <;> rfl
  have e1 : FloatKind.f64.format.order (nrm lo) (nrm hi) = some (compare (fv (nrm lo)) (fv (nrm hi))) := order_fin a1 b1 a2 b2
  have e2 : FloatKind.f64.format.order lo hi = some (compare (fv lo) (fv hi)) := order_fin hl hh fl fh
  unfold leF
  rw [e1, e2, va hl fl, va hh fh]
set_option exponentiation.threshold 3000 in
theorem one_bd {x : Int} (h : x.natAbs < 2 ^ 2098) : (x * ((2 ^ 1 : Nat) : Int)).natAbs < 2 ^ 2099 := by
  rw [Int.natAbs_mul, Int.natAbs_natCast]
  have h1 := Nat.mul_lt_mul_of_pos_right h (Nat.pow_pos (n := 1) (a := 2) (by decide))
  rwa [← Nat.pow_add] at h1
theorem make_eq {lo hi : Nat} (hl : lo < 18446744073709551616) (hh : hi < 18446744073709551616) : makeS lo hi = if goodB lo hi false then ofS (rndS 2 1075 (numV lo * ((2 ^ 1 : Nat) : Int))) (rndS 1 1075 (numV hi * ((2 ^ 1 : Nat) : Int))) else badS := by
  unfold makeS goodB
  cases fl : fin lo with
  | false => simp only [Bool.not_false, Bool.true_and, Bool.false_and, Bool.and_false, Bool.false_eq_true, ↓reduceIte]
  | true =>
    cases fh : fin hi with
    | false => simp only [Bool.not_false, Bool.true_and, Bool.false_and, Bool.and_false, Bool.false_eq_true, ↓reduceIte]
    | true =>
      rw [le_nrm hl hh fl fh, rnd_own hl fl, rnd_own hh fh]
      cases leF lo hi
      · simp only [Bool.not_false, Bool.true_and, Bool.false_and, Bool.and_false, Bool.false_eq_true, ↓reduceIte]
      · simp only [Bool.not_false, Bool.true_and, Bool.and_self, ofS, Option.isSome_some, Option.getD_some, ↓reduceIte]
set_option exponentiation.threshold 3000 in
set_option maxHeartbeats 1000000 in
set_option maxRecDepth 100000 in
theorem rmake_calls (lo hi : Nat) (hl : lo < 18446744073709551616) (hh : hi < 18446744073709551616) (w : World) :
    Calls Tryz.prog 7 #[.int .u64 lo, .int .u64 hi] w fun e w' => e = .returned (rpV (makeS lo hi)) ∧ Below w.heap.size w w' := by
  have HE := Lib.hid (fun W => rends_calls lo hi false hl hh W)
  have HBD := Lib.hid (And.intro (one_bd (numV_bd hl)) (one_bd (numV_bd hh)))
  rw [make_eq hl hh]
  have HOF := Lib.hid (fun n1 n2 A1 A2 l1 l2 c1 c2 x1 x2 W hb hx hy => rof_calls 1075 (w.heap.size + 1) 2099 (numV lo * ((2 ^ 1 : Nat) : Int)) (numV hi * ((2 ^ 1 : Nat) : Int)) n1 n2 A1 A2 l1 l2 c1 c2 x1 x2 W hb hx hy HBD.out.1 HBD.out.2 (by decide) (by decide) (by decide))
  obtain ⟨o, ho⟩ : ∃ o, ofS (rndS 2 1075 (numV lo * ((2 ^ 1 : Nat) : Int))) (rndS 1 1075 (numV hi * ((2 ^ 1 : Nat) : Int))) = o := ⟨_, rfl⟩
  rw [ho] at HOF ⊢
  clear ho HBD
  obtain ⟨g, hg⟩ : ∃ g, goodB lo hi false = g := ⟨_, rfl⟩
  rw [hg] at HE
  rw [hg]
  have H0 := Lib.hid (And.intro (rs_zero w) (below_new (Below.refl w.heap.size w) (.cells #[.int .u64 0, .int .u64 0, .bool false] 30)))
  clear hl hh hg
  go_enter Tryz.func7, Tryz.ntmps7
  go_wp2_with fail
  refine (HE.out _).mono ?_
  rintro e w1 ⟨n1, n2, A1, A2, l1, l2, c1, c2, x1, x2, rfl, hP, hQ, hW⟩
  have hB1 := below_new (Below.refl w1.heap.size w1) (.cells #[.bool n1, .slice A1 l1 c1, .int .i64 x1] 38)
  have hB2 := below_new hB1 (.cells #[.bool n2, .slice A2 l2 c2, .int .i64 x2] 38)
  have hb := below_next hW hB2
  have hp := ((NV.new hP).below (below_new (Below.refl _ _) (.cells #[.bool n2, .slice A2 l2 c2, .int .i64 x2] 38)))
  have hq := num_blk (w1.alloc (.cells #[.bool n1, .slice A1 l1 c1, .int .i64 x1] 38)) n2 A2 l2 c2 x2
  simp only [World.size_alloc] at hq
  have hbs : w.heap.size + 1 ≤ w1.heap.size := by have := hW.size; simp only [World.size_alloc] at this; exact this
  have H1 := Lib.hid (And.intro (H0.out.1.below' hb) (And.intro hp (And.intro (And.intro hq (hQ.below hB2)) (And.intro (below_next H0.out.2 hb) hbs))))
  clear hP hQ hW hB1 hB2 hb hp hq hbs H0 HE
  cases g
  · go_wp2_with fail
    refine (rbad_calls _).mono ?_
    rintro e w2 ⟨rfl, hW⟩
    have HR := Lib.hid (H1.out.1.below' hW)
    have HB := Lib.hid (below_next H1.out.2.2.2.1 hW)
    obtain ⟨⟨r0, r1, r2⟩, f0, f1, f2⟩ := three HR.out
    clear hW
    unfold rpV badS
    go_wp2
    have hb := ((HR.out.set 0 (.int .u64 0)).set 1 (.int .u64 0)).set 2 (.bool true)
    obtain ⟨⟨t0, t1, t2⟩, _⟩ := three hb
    refine bodyPost_ret (v := .agg #[.int .u64 0, .int .u64 0, .bool true]) (by simp [results, Tryz.results7, go_sem, t0, t1, t2]) rfl ⟨rfl, ?_⟩
    first | exact below_new (Below.refl _ _) _ | exact ((HB.out.setCell (p := ⟨w.heap.size, 0, none⟩) (Nat.le_refl _) _).setCell (p := ⟨w.heap.size, 1, none⟩) (Nat.le_refl _) _).setCell (p := ⟨w.heap.size, 2, none⟩) (Nat.le_refl _) _
  · obtain ⟨p0, p1, p2⟩ := H1.out.2.1.cells
    obtain ⟨⟨q0, q1, q2⟩, _⟩ := three H1.out.2.2.1.1
    go_wp2_with fail
    refine (HOF.out n1 n2 A1 A2 l1 l2 c1 c2 x1 x2 _ (by have h1 := H1.out.2.2.2.2; simp only [World.size_alloc]; omega) ?_ ?_).mono ?_
    · have := H1.out.2.1.2
      simp only [World.size_alloc] at this
      exact this.raise 1
    · have := H1.out.2.2.1.2
      simp only [World.size_alloc] at this
      exact this.raise 1
    rintro e w2 ⟨rfl, hW⟩
    have HR := Lib.hid (H1.out.1.below' hW)
    have HB := Lib.hid (below_next H1.out.2.2.2.1 hW)
    obtain ⟨⟨r0, r1, r2⟩, f0, f1, f2⟩ := three HR.out
    obtain ⟨x, y, b⟩ := o
    clear hW p0 p1 p2 q0 q1 q2
    unfold rpV
    go_wp2
    have hb := ((HR.out.set 0 (.int .u64 x)).set 1 (.int .u64 y)).set 2 (.bool b)
    obtain ⟨⟨t0, t1, t2⟩, _⟩ := three hb
    refine bodyPost_ret (v := .agg #[.int .u64 x, .int .u64 y, .bool b]) (by simp [results, Tryz.results7, go_sem, t0, t1, t2]) rfl ⟨rfl, ?_⟩
    first | exact below_new (Below.refl _ _) _ | exact ((HB.out.setCell (p := ⟨w.heap.size, 0, none⟩) (Nat.le_refl _) _).setCell (p := ⟨w.heap.size, 1, none⟩) (Nat.le_refl _) _).setCell (p := ⟨w.heap.size, 2, none⟩) (Nat.le_refl _) _
end Go.Proofs.YtikdhkmcdmnadaaGreatFmt
