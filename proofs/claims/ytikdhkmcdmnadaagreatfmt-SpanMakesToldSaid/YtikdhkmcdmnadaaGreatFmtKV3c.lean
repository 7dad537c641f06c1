import Derived.Test.YtikdhkmcdmnadaaGreatFmtKV3a
import Derived.Deep.RegionHeld
set_option linter.unusedVariables false
set_option linter.unusedSimpArgs false
namespace Go.Proofs.YtikdhkmcdmnadaaGreatFmt
open Go.RowKit
attribute [local go_sem ↓] Go.wp_at_zero Go.wp_at_succ
set_option exponentiation.threshold 3000 in
set_option maxHeartbeats 1000000 in
set_option maxRecDepth 100000 in
theorem ends_b (lo hi : Nat) (b : Bool) (hl : lo < 18446744073709551616) (hh : hi < 18446744073709551616) (hfl : fin lo = true) (hfh : fin hi = false) (w : World) :
    Calls Tryz.prog 13 #[.agg #[.int .u64 lo, .int .u64 hi, .bool b]] w fun e w' => ∃ (n1 n2 : Bool) (A1 A2 : Option Addr) (l1 l2 c1 c2 : Nat) (x1 x2 : Int), e = .returned (.tuple #[.agg #[.bool n1, .slice A1 l1 c1, .int .i64 x1], .agg #[.bool n2, .slice A2 l2 c2, .int .i64 x2], .bool (goodB lo hi b)]) ∧ NumC 1074 w' w.heap.size (numV lo) n1 A1 l1 c1 x1 ∧ NumC 1074 w' w.heap.size (numV hi) n2 A2 l2 c2 x2 ∧ Below w.heap.size w w' := by
  have hgb : goodB lo hi b = false := by unfold goodB; rw [hfl, hfh]; cases b <;> rfl
  rw [hgb]
  clear hgb
  have HO1 := Lib.hid (fun W => of_calls lo w.heap.size W hl)
  have HO2 := Lib.hid (fun W => of_calls hi w.heap.size W hh)
  rw [hfl] at HO1
  rw [hfh] at HO2
  have hB := below_new (below_new (below_new (Below.refl w.heap.size w) (.cells #[.int .u64 lo, .int .u64 hi, .bool b] 30)) (.cells #[.bool false, .slice none 0 0, .int .i64 0] 38)) (.cells #[.bool false, .slice none 0 0, .int .i64 0] 38)
  have hs := ((rs_new w lo hi b).alloc (.cells #[.bool false, .slice none 0 0, .int .i64 0] 38)).alloc (.cells #[.bool false, .slice none 0 0, .int .i64 0] 38)
  have h2 := (num_new (w.alloc (.cells #[.int .u64 lo, .int .u64 hi, .bool b] 30))).alloc (.cells #[.bool false, .slice none 0 0, .int .i64 0] 38)
  have h3 := num_new ((w.alloc (.cells #[.int .u64 lo, .int .u64 hi, .bool b] 30)).alloc (.cells #[.bool false, .slice none 0 0, .int .i64 0] 38))
  simp only [World.size_alloc] at h2 h3
  have H0 := Lib.hid (And.intro hs (And.intro h2 (And.intro h3 hB)))
  clear hl hh hfl hB hs h2 h3 hfh
  go_enter Tryz.func13, Tryz.ntmps13
  go_wp2_with fail
  refine (HO1.out _).mono ?_
  rintro e w1 ⟨n1, A1, l1, c1, x1, rfl, hR, hW⟩
  have hB := below_new (Below.refl w1.heap.size w1) (.cells #[.bool n1, .slice A1 l1 c1, .int .i64 x1] 38)
  have hW1 := hW
  have hb1 := below_next hW hB
  have H1 := Lib.hid (And.intro (H0.out.1.below' hb1) (And.intro (H0.out.2.1.below' hb1) (And.intro (H0.out.2.2.1.below' hb1) (And.intro (NV.new hR) (below_next H0.out.2.2.2 hb1)))))
  have HZ1 : Hid (w.heap.size + 1 + 1 < w1.heap.size) := Nat.lt_of_lt_of_le H0.out.2.2.1.lt hW.size
  clear hR hW hW1 hB hb1 H0
  obtain ⟨⟨s0, s1, s2⟩, _⟩ := three H1.out.1
  go_wp2_with fail
  refine (HO2.out _).mono ?_
  rintro e w2 ⟨n2, A2, l2, c2, x2, rfl, hR, hW⟩
  have hB := below_new (Below.refl w2.heap.size w2) (.cells #[.bool n2, .slice A2 l2 c2, .int .i64 x2] 38)
  have hb1 := below_next hW hB
  have H2 : Hid (EnW w (w2.alloc (.cells #[.bool n2, .slice A2 l2 c2, .int .i64 x2] 38)) w.heap.size w.heap.size w1.heap.size w2.heap.size lo hi b (numV lo) (numV hi) n1 n2 A1 A2 l1 l2 c1 c2 x1 x2) := ⟨H1.out.1.below' hb1, H1.out.2.2.2.1.below hb1, NV.new hR, below_next H1.out.2.2.2.2 hb1⟩
  have HR := Lib.hid (And.intro (H1.out.2.1.below' hb1) (H1.out.2.2.1.below' hb1))
  have HZ2 : Hid (w1.heap.size < w2.heap.size) := by have := hW.size; simp only [World.size_alloc] at this; exact Nat.lt_of_lt_of_le (Nat.lt_succ_self _) this
  clear hR hW hB hb1 H1 s0 s1 s2
  obtain ⟨v0, hv0⟩ : ∃ W, W = (w2.alloc (.cells #[.bool n2, .slice A2 l2 c2, .int .i64 x2] 38)) := ⟨_, rfl⟩
  go_wp2_with fail
  rw [← hv0] at H2 HR ⊢
  clear hv0
  refine wp_region_noPanic ?_
  refine wp_region_held_drew (S := (fun wx => EnW w wx w.heap.size w.heap.size w1.heap.size w2.heap.size lo hi b (numV lo) (numV hi) n1 n2 A1 A2 l1 l2 c1 c2 x1 x2)) (by kernel_rfl) (H2.out.below (by repeat (first | (with_reducible exact Below.refl _ _) | (with_reducible apply below_drewN) | (with_reducible apply Below.drew) | exact Below.refl _ _))) (fun hHeld => ?_)
  change wpAnyH _ _ _ _ _ 20 _ _ _
  refine wpAnyH_take (i := 0) (oi := ?rgO0) (v := ?rgV0) ?rgI0 (by kernel_rfl) (by kernel_rfl) (by kernel_rfl) ?rgQ0 (Or.inl ⟨?rgW0, ?rgY0⟩) hHeld ?rgR0
  case rgI0 => (simp only [List.getElem?_toArray, List.getElem?_cons_succ, List.getElem?_cons_zero]; exact rfl)
  case rgQ0 => exact fun _ _ _ h => h
  case rgW0 => kernel_rfl
  case rgY0 => (intro W hSw; obtain ⟨c0, c1, c2⟩ := hSw.p.cells; go_simp; try with_reducible rfl)
  try simp only [Act.put, List.setIfInBounds_toArray, List.set_cons_zero, List.set_cons_succ]
  refine wpAnyH_take (i := 1) (oi := ?rgO1) (v := ?rgV1) ?rgI1 (by kernel_rfl) (by kernel_rfl) (by kernel_rfl) ?rgQ1 (Or.inl ⟨?rgW1, ?rgY1⟩) hHeld ?rgR1
  case rgI1 => (simp only [List.getElem?_toArray, List.getElem?_cons_succ, List.getElem?_cons_zero]; exact rfl)
  case rgQ1 => exact fun _ _ _ h => h
  case rgW1 => kernel_rfl
  case rgY1 => (intro W hSw; obtain ⟨c0, c1, c2⟩ := hSw.q.cells; go_simp; try with_reducible rfl)
  try simp only [Act.put, List.setIfInBounds_toArray, List.set_cons_zero, List.set_cons_succ]
  refine wpAnyH_take (i := 2) (oi := ?rgO2) (v := ?rgV2) ?rgI2 (by kernel_rfl) (by kernel_rfl) (by kernel_rfl) ?rgQ2 (Or.inl ⟨?rgW2, ?rgY2⟩) hHeld ?rgR2
  case rgI2 => (simp only [List.getElem?_toArray, List.getElem?_cons_succ, List.getElem?_cons_zero]; exact rfl)
  case rgQ2 => exact fun _ _ _ h => h
  case rgW2 => kernel_rfl
  case rgY2 => (intro W hSw; clear hSw; go_simp; try with_reducible rfl)
  try simp only [Act.put, List.setIfInBounds_toArray, List.set_cons_zero, List.set_cons_succ]
  refine wpAnyH_take (i := 3) (oi := ?rgO3) (v := ?rgV3) ?rgI3 (by kernel_rfl) (by kernel_rfl) (by kernel_rfl) ?rgQ3 (Or.inl ⟨?rgW3, ?rgY3⟩) hHeld ?rgR3
  case rgI3 => (simp only [List.getElem?_toArray, List.getElem?_cons_succ, List.getElem?_cons_zero]; exact rfl)
  case rgQ3 => exact fun _ _ _ h => h
  case rgW3 => kernel_rfl
  case rgY3 => (intro W hSw; clear hSw; go_simp; try with_reducible rfl)
  try simp only [Act.put, List.setIfInBounds_toArray, List.set_cons_zero, List.set_cons_succ]
  refine wpAnyH_take (i := 4) (oi := ?rgO4) (v := ?rgV4) ?rgI4 (by kernel_rfl) (by kernel_rfl) (by kernel_rfl) ?rgQ4 (Or.inl ⟨?rgW4, ?rgY4⟩) hHeld ?rgR4
  case rgI4 => (simp only [List.getElem?_toArray, List.getElem?_cons_succ, List.getElem?_cons_zero]; exact rfl)
  case rgQ4 => exact fun _ _ _ h => h
  case rgW4 => kernel_rfl
  case rgY4 => (intro W hSw; clear hSw; go_simp; try with_reducible rfl)
  try simp only [Act.put, List.setIfInBounds_toArray, List.set_cons_zero, List.set_cons_succ]
  refine wpAnyH_take (i := 5) (oi := ?rgO5) (v := ?rgV5) ?rgI5 (by kernel_rfl) (by kernel_rfl) (by kernel_rfl) ?rgQ5 (Or.inl ⟨?rgW5, ?rgY5⟩) hHeld ?rgR5
  case rgI5 => (simp only [List.getElem?_toArray, List.getElem?_cons_succ, List.getElem?_cons_zero]; exact rfl)
  case rgQ5 => exact fun _ _ _ h => h
  case rgW5 => kernel_rfl
  case rgY5 => (intro W hSw; clear hSw; go_simp; try with_reducible rfl)
  try simp only [Act.put, List.setIfInBounds_toArray, List.set_cons_zero, List.set_cons_succ]
  refine wpAnyH_take (i := 6) (oi := ?rgO6) (v := ?rgV6) ?rgI6 (by kernel_rfl) (by kernel_rfl) (by kernel_rfl) ?rgQ6 (Or.inl ⟨?rgW6, ?rgY6⟩) hHeld ?rgR6
  case rgI6 => (simp only [List.getElem?_toArray, List.getElem?_cons_succ, List.getElem?_cons_zero]; exact rfl)
  case rgQ6 => exact fun _ _ _ h => h
  case rgW6 => kernel_rfl
  case rgY6 => (intro W hSw; clear hSw; go_simp; try with_reducible rfl)
  try simp only [Act.put, List.setIfInBounds_toArray, List.set_cons_zero, List.set_cons_succ]
  refine wpAnyH_take (i := 7) (oi := ?rgO7) (v := undef) ?rgI7 (by kernel_rfl) (by kernel_rfl) (by kernel_rfl) ?rgQ7 (Or.inr ⟨?rgW7, rfl⟩) hHeld ?rgR7
  case rgI7 => (simp only [List.getElem?_toArray, List.getElem?_cons_succ, List.getElem?_cons_zero]; exact rfl)
  case rgQ7 => exact fun _ _ _ h => h
  case rgW7 => kernel_rfl
  try simp only [Act.put, List.setIfInBounds_toArray, List.set_cons_zero, List.set_cons_succ]
  refine wpAnyH_take (i := 8) (oi := ?rgO8) (v := undef) ?rgI8 (by kernel_rfl) (by kernel_rfl) (by kernel_rfl) ?rgQ8 (Or.inr ⟨?rgW8, rfl⟩) hHeld ?rgR8
  case rgI8 => (simp only [List.getElem?_toArray, List.getElem?_cons_succ, List.getElem?_cons_zero]; exact rfl)
  case rgQ8 => exact fun _ _ _ h => h
  case rgW8 => kernel_rfl
  try simp only [Act.put, List.setIfInBounds_toArray, List.set_cons_zero, List.set_cons_succ]
  refine wpAnyH_take (i := 9) (oi := ?rgO9) (v := undef) ?rgI9 (by kernel_rfl) (by kernel_rfl) (by kernel_rfl) ?rgQ9 (Or.inr ⟨?rgW9, rfl⟩) hHeld ?rgR9
  case rgI9 => (simp only [List.getElem?_toArray, List.getElem?_cons_succ, List.getElem?_cons_zero]; exact rfl)
  case rgQ9 => exact fun _ _ _ h => h
  case rgW9 => kernel_rfl
  try simp only [Act.put, List.setIfInBounds_toArray, List.set_cons_zero, List.set_cons_succ]
  refine wpAnyH_take (i := 10) (oi := ?rgO10) (v := ?rgV10) ?rgI10 (by kernel_rfl) (by kernel_rfl) (by kernel_rfl) ?rgQ10 (Or.inl ⟨?rgW10, ?rgY10⟩) hHeld ?rgR10
  case rgI10 => (simp only [List.getElem?_toArray, List.getElem?_cons_succ, List.getElem?_cons_zero]; exact rfl)
  case rgQ10 => exact fun _ _ _ h => h
  case rgW10 => kernel_rfl
  case rgY10 => (intro W hSw; clear hSw; go_simp; try with_reducible rfl)
  try simp only [Act.put, List.setIfInBounds_toArray, List.set_cons_zero, List.set_cons_succ]
  refine wpAnyH_take (i := 11) (oi := ?rgO11) (v := ?rgV11) ?rgI11 (by kernel_rfl) (by kernel_rfl) (by kernel_rfl) ?rgQ11 (Or.inl ⟨?rgW11, ?rgY11⟩) hHeld ?rgR11
  case rgI11 => (simp only [List.getElem?_toArray, List.getElem?_cons_succ, List.getElem?_cons_zero]; exact rfl)
  case rgQ11 => exact fun _ _ _ h => h
  case rgW11 => kernel_rfl
  case rgY11 => (intro W hSw; clear hSw; go_simp; try with_reducible rfl)
  try simp only [Act.put, List.setIfInBounds_toArray, List.set_cons_zero, List.set_cons_succ]
  refine wpAnyH_take (i := 12) (oi := ?rgO12) (v := undef) ?rgI12 (by kernel_rfl) (by kernel_rfl) (by kernel_rfl) ?rgQ12 (Or.inr ⟨?rgW12, rfl⟩) hHeld ?rgR12
  case rgI12 => (simp only [List.getElem?_toArray, List.getElem?_cons_succ, List.getElem?_cons_zero]; exact rfl)
  case rgQ12 => exact fun _ _ _ h => h
  case rgW12 => kernel_rfl
  try simp only [Act.put, List.setIfInBounds_toArray, List.set_cons_zero, List.set_cons_succ]
  refine wpAnyH_take (i := 13) (oi := ?rgO13) (v := undef) ?rgI13 (by kernel_rfl) (by kernel_rfl) (by kernel_rfl) ?rgQ13 (Or.inr ⟨?rgW13, rfl⟩) hHeld ?rgR13
  case rgI13 => (simp only [List.getElem?_toArray, List.getElem?_cons_succ, List.getElem?_cons_zero]; exact rfl)
  case rgQ13 => exact fun _ _ _ h => h
  case rgW13 => kernel_rfl
  try simp only [Act.put, List.setIfInBounds_toArray, List.set_cons_zero, List.set_cons_succ]
  refine wpAnyH_take (i := 14) (oi := ?rgO14) (v := undef) ?rgI14 (by kernel_rfl) (by kernel_rfl) (by kernel_rfl) ?rgQ14 (Or.inr ⟨?rgW14, rfl⟩) hHeld ?rgR14
  case rgI14 => (simp only [List.getElem?_toArray, List.getElem?_cons_succ, List.getElem?_cons_zero]; exact rfl)
  case rgQ14 => exact fun _ _ _ h => h
  case rgW14 => kernel_rfl
  try simp only [Act.put, List.setIfInBounds_toArray, List.set_cons_zero, List.set_cons_succ]
  refine wpAnyH_take (i := 15) (oi := ?rgO15) (v := undef) ?rgI15 (by kernel_rfl) (by kernel_rfl) (by kernel_rfl) ?rgQ15 (Or.inr ⟨?rgW15, rfl⟩) hHeld ?rgR15
  case rgI15 => (simp only [List.getElem?_toArray, List.getElem?_cons_succ, List.getElem?_cons_zero]; exact rfl)
  case rgQ15 => exact fun _ _ _ h => h
  case rgW15 => kernel_rfl
  try simp only [Act.put, List.setIfInBounds_toArray, List.set_cons_zero, List.set_cons_succ]
  refine wpAnyH_take (i := 16) (oi := ?rgO16) (v := ?rgV16) ?rgI16 (by kernel_rfl) (by kernel_rfl) (by kernel_rfl) ?rgQ16 (Or.inl ⟨?rgW16, ?rgY16⟩) hHeld ?rgR16
  case rgI16 => (simp only [List.getElem?_toArray, List.getElem?_cons_succ, List.getElem?_cons_zero]; exact rfl)
  case rgQ16 => exact fun _ _ _ h => h
  case rgW16 => kernel_rfl
  case rgY16 => (intro W hSw; clear hSw; go_simp; try with_reducible rfl)
  try simp only [Act.put, List.setIfInBounds_toArray, List.set_cons_zero, List.set_cons_succ]
  refine wpAnyH_ready (rs := [17]) (by kernel_rfl) (by simp) ?_
  refine AllReadyH.cons (o := ?rgO17) ?rgI17 (fun K hK => ?rgR17) AllReadyH.nil
  case rgI17 => (simp only [List.getElem?_toArray, List.getElem?_cons_succ, List.getElem?_cons_zero]; exact rfl)
  rw [if_pos (by kernel_rfl)]
  go_simp
  obtain ⟨⟨s0, s1, s2⟩, e0, e1, e2⟩ := three HR.out.1
  go_simp
  have F2 := Lib.hid (H2.out.set3 HR.out.1 (by omega) (by omega) (by omega) (by have := HZ1.out; omega) (by have := HZ1.out; have := HZ2.out; omega) (.bool n1) (.slice A1 l1 c1) (.int .i64 x1))
  have hb := ((HR.out.1.set 0 (.bool n1)).set 1 (.slice A1 l1 c1)).set 2 (.int .i64 x1)
  have hc := ((HR.out.2.far (p := ⟨w.heap.size + 1, 0, none⟩) (by show w.heap.size + 1 + 1 ≠ w.heap.size + 1; omega) (.bool n1)).far (p := ⟨w.heap.size + 1, 1, none⟩) (by show w.heap.size + 1 + 1 ≠ w.heap.size + 1; omega) (.slice A1 l1 c1)).far (p := ⟨w.heap.size + 1, 2, none⟩) (by show w.heap.size + 1 + 1 ≠ w.heap.size + 1; omega) (.int .i64 x1)
  have G2 := Lib.hid (And.intro hb hc)
  clear hb hc s0 s1 s2 e0 e1 e2
  clear hHeld
  refine hK.out _ _ (F2.out.below (by repeat (first | (with_reducible exact Below.refl _ _) | (with_reducible apply below_drewN) | (with_reducible apply Below.drew) | exact Below.refl _ _))) (fun hHeld => ?_)
  clear hK K
  try simp only [Act.put, List.setIfInBounds_toArray, List.set_cons_zero, List.set_cons_succ]
  refine wpAnyH_ready (rs := [18]) (by kernel_rfl) (by simp) ?_
  refine AllReadyH.cons (o := ?rgO18) ?rgI18 (fun K hK => ?rgR18) AllReadyH.nil
  case rgI18 => (simp only [List.getElem?_toArray, List.getElem?_cons_succ, List.getElem?_cons_zero]; exact rfl)
  rw [if_pos (by kernel_rfl)]
  go_simp
  obtain ⟨⟨s0, s1, s2⟩, e0, e1, e2⟩ := three G2.out.2
  obtain ⟨⟨r0, r1, r2⟩, f0, f1, f2⟩ := three HR.out.2
  go_simp
  have F3 := Lib.hid (F2.out.set3 G2.out.2 (by omega) (by omega) (by omega) (by have := HZ1.out; omega) (by have := HZ1.out; have := HZ2.out; omega) (.bool n2) (.slice A2 l2 c2) (.int .i64 x2))
  have hb := ((G2.out.2.set 0 (.bool n2)).set 1 (.slice A2 l2 c2)).set 2 (.int .i64 x2)
  have hc := ((G2.out.1.far (p := ⟨w.heap.size + 1 + 1, 0, none⟩) (by show w.heap.size + 1 ≠ w.heap.size + 1 + 1; omega) (.bool n2)).far (p := ⟨w.heap.size + 1 + 1, 1, none⟩) (by show w.heap.size + 1 ≠ w.heap.size + 1 + 1; omega) (.slice A2 l2 c2)).far (p := ⟨w.heap.size + 1 + 1, 2, none⟩) (by show w.heap.size + 1 ≠ w.heap.size + 1 + 1; omega) (.int .i64 x2)
  have G3 := Lib.hid (And.intro hc hb)
  clear hb hc s0 s1 s2 e0 e1 e2 r0 r1 r2 f0 f1 f2
  clear hHeld
  refine hK.out _ _ (F3.out.below (by repeat (first | (with_reducible exact Below.refl _ _) | (with_reducible apply below_drewN) | (with_reducible apply Below.drew) | exact Below.refl _ _))) (fun hHeld => ?_)
  clear hK K
  try simp only [Act.put, List.setIfInBounds_toArray, List.set_cons_zero, List.set_cons_succ]
  refine wpAnyH_take (i := 19) (oi := ?rgO19) (v := ?rgV19) ?rgI19 (by kernel_rfl) (by kernel_rfl) (by kernel_rfl) ?rgQ19 (Or.inl ⟨?rgW19, ?rgY19⟩) hHeld ?rgR19
  case rgI19 => (simp only [List.getElem?_toArray, List.getElem?_cons_succ, List.getElem?_cons_zero]; exact rfl)
  case rgQ19 => exact fun _ _ _ h => h
  case rgW19 => kernel_rfl
  case rgY19 => (intro W hSw; clear hSw; go_simp; try with_reducible rfl)
  try simp only [Act.put, List.setIfInBounds_toArray, List.set_cons_zero, List.set_cons_succ]
  refine wpAnyH_done (by kernel_rfl) ?_ _
  refine NoPanic.normal ?_
  go_wp2
  obtain ⟨⟨t0, t1, t2⟩, _⟩ := three G3.out.1
  obtain ⟨⟨t3, t4, t5⟩, _⟩ := three G3.out.2
  refine bodyPost_ret (v := .tuple #[.agg #[.bool n1, .slice A1 l1 c1, .int .i64 x1], .agg #[.bool n2, .slice A2 l2 c2, .int .i64 x2], .bool false]) (by simp [results, Tryz.results13, go_sem, t0, t1, t2, t3, t4, t5]) rfl ⟨n1, n2, A1, A2, l1, l2, c1, c2, x1, x2, rfl, (F3.out.below (by repeat (first | (with_reducible exact Below.refl _ _) | (with_reducible apply below_drewN) | (with_reducible apply Below.drew) | exact Below.refl _ _))).p.2, (F3.out.below (by repeat (first | (with_reducible exact Below.refl _ _) | (with_reducible apply below_drewN) | (with_reducible apply Below.drew) | exact Below.refl _ _))).q.2, (F3.out.below (by repeat (first | (with_reducible exact Below.refl _ _) | (with_reducible apply below_drewN) | (with_reducible apply Below.drew) | exact Below.refl _ _))).bel⟩
end Go.Proofs.YtikdhkmcdmnadaaGreatFmt
