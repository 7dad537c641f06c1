import Derived.Test.YtikdhkmcdmnadaaGreatFmtKV6
import Derived.Deep.RegionHeld
set_option linter.unusedVariables false
set_option linter.unusedSimpArgs false
namespace Go.Proofs.YtikdhkmcdmnadaaGreatFmt
open Go.RowKit
attribute [local go_sem ↓] Go.wp_at_zero Go.wp_at_succ
attribute [local go_sem] store_fltV

/-! ### ambitlaw4.started: the examples (printed by gen_v7.py) -/
def aS : Sp := ⟨13848005904210853888, 4626604192193052672, false⟩
def bS : Sp := ⟨4598175219545276416, 4604180019048437078, false⟩
theorem mk1 : makeS 13835058055282163712 4613937818241073152 = ⟨13835058055282163712, 4613937818241073152, false⟩ := by kernel_rfl
theorem mk2 : makeS 13840687554816376832 4619567317775286272 = ⟨13840687554816376832, 4619567317775286272, false⟩ := by kernel_rfl
theorem mk3 : makeS 4607182418800017408 4611686018427387904 = ⟨4607182418800017408, 4611686018427387904, false⟩ := by kernel_rfl
theorem mk4 : makeS 4613937818241073152 4616189618054758400 = ⟨4613937818241073152, 4616189618054758400, false⟩ := by kernel_rfl
theorem mk5 : makeS 4607182418800017408 4607182418800017408 = ⟨4607182418800017408, 4607182418800017408, false⟩ := by kernel_rfl
theorem mk6 : makeS 13830554455654793216 4607182418800017408 = ⟨13830554455654793216, 4607182418800017408, false⟩ := by kernel_rfl
set_option exponentiation.threshold 4000 in
theorem ex1 : mulS ⟨13835058055282163712, 4613937818241073152, false⟩ ⟨13840687554816376832, 4619567317775286272, false⟩ = aS := by kernel_rfl
set_option exponentiation.threshold 4000 in
theorem ex2 : divS' ⟨4607182418800017408, 4611686018427387904, false⟩ ⟨4613937818241073152, 4616189618054758400, false⟩ = bS := by kernel_rfl
set_option exponentiation.threshold 4000 in
theorem ex3 : divS' ⟨4607182418800017408, 4607182418800017408, false⟩ ⟨13830554455654793216, 4607182418800017408, false⟩ = badS := by kernel_rfl
theorem ex4 : hasB 13848005904210853888 4626604192193052672 false 4626604192193052672 = true := by kernel_rfl
theorem ex5 : hasB 13848005904210853888 4626604192193052672 false 4626885667169763328 = false := by kernel_rfl
theorem ex6 : insideB 4598175219545276416 4604180019048437078 false 13848005904210853888 4626604192193052672 false = true := by kernel_rfl
/-- the three spans of the examples, each in its block -/
def StW (w0 w : World) (pa pb pc : Nat) : Prop := Blk w pa 27 [.float .f64 13848005904210853888, .float .f64 4626604192193052672, .bool false] ∧ Blk w pb 27 [.float .f64 4598175219545276416, .float .f64 4604180019048437078, .bool false] ∧ Blk w pc 27 [.float .f64 0, .float .f64 0, .bool true] ∧ Below w0.heap.size w0 w
theorem StW.below {w0 w w' : World} {pa pb pc : Nat} (h : StW w0 w pa pb pc) (hb : Below w.heap.size w w') : StW w0 w' pa pb pc := ⟨h.1.below' hb, h.2.1.below' hb, h.2.2.1.below' hb, below_next h.2.2.2 hb⟩
theorem eqF1 (W : World) : (Op.equalIn 9999 22 (.float .f64 13848005904210853888) (.float .f64 13848005904210853888)).run Tryz.prog W = .ok true W := by kernel_rfl
theorem eqF2 (W : World) : (Op.equalIn 9999 22 (.float .f64 4626604192193052672) (.float .f64 4626604192193052672)).run Tryz.prog W = .ok true W := by kernel_rfl
theorem eqF3 (W : World) : (Op.equalIn 9999 22 (.float .f64 4598175219545276416) (.float .f64 4598175219545276416)).run Tryz.prog W = .ok true W := by kernel_rfl
theorem eqF4 (W : World) : (Op.equalIn 9999 22 (.float .f64 4604180019048437078) (.float .f64 4604180019048437078)).run Tryz.prog W = .ok true W := by kernel_rfl
theorem eqF5 (W : World) : (Op.equalIn 9999 22 (.float .f64 0) (.float .f64 0)).run Tryz.prog W = .ok true W := by kernel_rfl
theorem float_r (W : World) : Calls Tryz.prog 18 #[.int .u64 4604180019048437078] W fun e w' => e = .returned (.float .f64 4604180019048437078) ∧ W = w' := by
  go_enter Tryz.func18, Tryz.ntmps18
  go_wp2
  go_ret
  exact ⟨rfl, rfl⟩
set_option maxHeartbeats 8000000 in
set_option maxRecDepth 100000 in
theorem started4_calls (w : World) (hbad : BadC w) :
    Calls Tryz.prog 9 #[] w fun e w' => e = .returned (.bool true) ∧ Below w.heap.size w w' := by
  have HM1 := Lib.hid (fun W hb => make_calls 13835058055282163712 4613937818241073152 (by decide) (by decide) W hb)
  have HM2 := Lib.hid (fun W hb => make_calls 13840687554816376832 4619567317775286272 (by decide) (by decide) W hb)
  have HM3 := Lib.hid (fun W hb => make_calls 4607182418800017408 4611686018427387904 (by decide) (by decide) W hb)
  have HM4 := Lib.hid (fun W hb => make_calls 4613937818241073152 4616189618054758400 (by decide) (by decide) W hb)
  have HM5 := Lib.hid (fun W hb => make_calls 4607182418800017408 4607182418800017408 (by decide) (by decide) W hb)
  have HM6 := Lib.hid (fun W hb => make_calls 13830554455654793216 4607182418800017408 (by decide) (by decide) W hb)
  have HX1 := Lib.hid (fun W hb => mul_calls ⟨13835058055282163712, 4613937818241073152, false⟩ ⟨13840687554816376832, 4619567317775286272, false⟩ (by decide) (by decide) (by decide) (by decide) W hb)
  have HX2 := Lib.hid (fun W hb => div_calls ⟨4607182418800017408, 4611686018427387904, false⟩ ⟨4613937818241073152, 4616189618054758400, false⟩ (by decide) (by decide) (by decide) (by decide) W hb)
  have HX3 := Lib.hid (fun W hb => div_calls ⟨4607182418800017408, 4607182418800017408, false⟩ ⟨13830554455654793216, 4607182418800017408, false⟩ (by decide) (by decide) (by decide) (by decide) W hb)
  rw [mk1] at HM1
  rw [mk2] at HM2
  rw [mk3] at HM3
  rw [mk4] at HM4
  rw [mk5] at HM5
  rw [mk6] at HM6
  rw [ex1] at HX1
  rw [ex2] at HX2
  rw [ex3] at HX3
  unfold spV at HM1 HM2 HM3 HM4 HM5 HM6 HX1 HX2 HX3
  unfold aS at HX1
  unfold bS at HX2
  unfold badS at HX3
  have HB := Lib.hid (And.intro hbad (Below.refl w.heap.size w))
  clear hbad
  go_enter Tryz.func9, Tryz.ntmps9
  go_wp2_with fail
  refine (HM1.out _ HB.out.1).mono ?_
  rintro e w1 ⟨rfl, hW⟩
  have HB := Lib.hid (And.intro (HB.out.1.keep hW) (below_next HB.out.2 hW))
  clear hW HM1
  go_wp2_with fail
  refine (HM2.out _ HB.out.1).mono ?_
  rintro e w2 ⟨rfl, hW⟩
  have HB := Lib.hid (And.intro (HB.out.1.keep hW) (below_next HB.out.2 hW))
  clear hW HM2
  go_wp2_with fail
  refine (HX1.out _ HB.out.1).mono ?_
  rintro e w3 ⟨rfl, hW⟩
  have HB := Lib.hid (And.intro (HB.out.1.keep hW) (below_next HB.out.2 hW))
  clear hW HX1
  have HB := Lib.hid (And.intro (HB.out.1.keep (below_new (Below.refl _ _) (.cells #[.float .f64 13848005904210853888, .float .f64 4626604192193052672, .bool false] 27))) (below_new HB.out.2 (.cells #[.float .f64 13848005904210853888, .float .f64 4626604192193052672, .bool false] 27)))
  have HA := Lib.hid (sp_new w3 13848005904210853888 4626604192193052672 false)
  go_wp2_with fail
  refine (HM3.out _ HB.out.1).mono ?_
  rintro e w4 ⟨rfl, hW⟩
  have HB := Lib.hid (And.intro (HB.out.1.keep hW) (below_next HB.out.2 hW))
  have HA := Lib.hid (HA.out.below' hW)
  clear hW HM3
  go_wp2_with fail
  refine (HM4.out _ HB.out.1).mono ?_
  rintro e w5 ⟨rfl, hW⟩
  have HB := Lib.hid (And.intro (HB.out.1.keep hW) (below_next HB.out.2 hW))
  have HA := Lib.hid (HA.out.below' hW)
  clear hW HM4
  go_wp2_with fail
  refine (HX2.out _ HB.out.1).mono ?_
  rintro e w6 ⟨rfl, hW⟩
  have HB := Lib.hid (And.intro (HB.out.1.keep hW) (below_next HB.out.2 hW))
  have HA := Lib.hid (HA.out.below' hW)
  clear hW HX2
  have HB := Lib.hid (And.intro (HB.out.1.keep (below_new (Below.refl _ _) (.cells #[.float .f64 4598175219545276416, .float .f64 4604180019048437078, .bool false] 27))) (below_new HB.out.2 (.cells #[.float .f64 4598175219545276416, .float .f64 4604180019048437078, .bool false] 27)))
  have HA := Lib.hid (HA.out.alloc (.cells #[.float .f64 4598175219545276416, .float .f64 4604180019048437078, .bool false] 27))
  have HD := Lib.hid (sp_new w6 4598175219545276416 4604180019048437078 false)
  go_wp2_with fail
  refine (HM5.out _ HB.out.1).mono ?_
  rintro e w7 ⟨rfl, hW⟩
  have HB := Lib.hid (And.intro (HB.out.1.keep hW) (below_next HB.out.2 hW))
  have HA := Lib.hid (HA.out.below' hW)
  have HD := Lib.hid (HD.out.below' hW)
  clear hW HM5
  go_wp2_with fail
  refine (HM6.out _ HB.out.1).mono ?_
  rintro e w8 ⟨rfl, hW⟩
  have HB := Lib.hid (And.intro (HB.out.1.keep hW) (below_next HB.out.2 hW))
  have HA := Lib.hid (HA.out.below' hW)
  have HD := Lib.hid (HD.out.below' hW)
  clear hW HM6
  go_wp2_with fail
  refine (HX3.out _ HB.out.1).mono ?_
  rintro e w9 ⟨rfl, hW⟩
  have HB := Lib.hid (And.intro (HB.out.1.keep hW) (below_next HB.out.2 hW))
  have HA := Lib.hid (HA.out.below' hW)
  have HD := Lib.hid (HD.out.below' hW)
  clear hW HX3
  have HB := Lib.hid (And.intro (HB.out.1.keep (below_new (Below.refl _ _) (.cells #[.float .f64 0, .float .f64 0, .bool true] 27))) (below_new HB.out.2 (.cells #[.float .f64 0, .float .f64 0, .bool true] 27)))
  have HA := Lib.hid (HA.out.alloc (.cells #[.float .f64 0, .float .f64 0, .bool true] 27))
  have HD := Lib.hid (HD.out.alloc (.cells #[.float .f64 0, .float .f64 0, .bool true] 27))
  have HE := Lib.hid (sp_new w9 0 0 true)
  have H0 := Lib.hid (show StW w (w9.alloc (.cells #[.float .f64 0, .float .f64 0, .bool true] 27)) w3.heap.size w6.heap.size w9.heap.size from ⟨HA.out, HD.out, HE.out, HB.out.2⟩)
  clear HA HD HE HB
  have HFL := Lib.hid (fun W => float_r W)
  have HH1 := Lib.hid (fun W => has_calls 13848005904210853888 4626604192193052672 false 4626604192193052672 (by decide) (by decide) (by decide) W)
  have HH2 := Lib.hid (fun W => has_calls 13848005904210853888 4626604192193052672 false 4626885667169763328 (by decide) (by decide) (by decide) W)
  have HI := Lib.hid (fun W => inside_calls 4598175219545276416 4604180019048437078 13848005904210853888 4626604192193052672 false false (by decide) (by decide) (by decide) (by decide) W)
  rw [ex4] at HH1
  rw [ex5] at HH2
  rw [ex6] at HI
  go_wp2_with fail
  refine wp_region_noPanic ?_
  refine wp_region_held_drew (S := (fun wx => StW w wx w3.heap.size w6.heap.size w9.heap.size)) (by kernel_rfl) (H0.out.below (by repeat (first | exact Below.refl _ _ | (with_reducible apply below_drewN) | (with_reducible apply Below.drew)))) (fun hHeld => ?_)
  change wpAnyH _ _ _ _ _ 29 _ _ _
  refine wpAnyH_take (i := 0) (oi := ?rgO0) (v := ?rgV0) ?rgI0 (by kernel_rfl) (by kernel_rfl) (by kernel_rfl) ?rgQ0 (Or.inl ⟨?rgW0, ?rgY0⟩) hHeld ?rgR0
  case rgI0 => (simp only [List.getElem?_toArray, List.getElem?_cons_succ, List.getElem?_cons_zero]; exact rfl)
  case rgQ0 => exact fun _ _ _ h => h
  case rgW0 => kernel_rfl
  case rgY0 => (intro W hSw; obtain ⟨⟨c0, c1, c2⟩, _⟩ := three hSw.1; go_simp; try with_reducible rfl)
  try simp only [Act.put, List.setIfInBounds_toArray, List.set_cons_zero, List.set_cons_succ]
  refine wpAnyH_take (i := 1) (oi := ?rgO1) (v := ?rgV1) ?rgI1 (by kernel_rfl) (by kernel_rfl) (by kernel_rfl) ?rgQ1 (Or.inl ⟨?rgW1, ?rgY1⟩) hHeld ?rgR1
  case rgI1 => (simp only [List.getElem?_toArray, List.getElem?_cons_succ, List.getElem?_cons_zero]; exact rfl)
  case rgQ1 => exact fun _ _ _ h => h
  case rgW1 => kernel_rfl
  case rgY1 => (intro W hSw; clear hSw; go_simp; try with_reducible rfl)
  try simp only [Act.put, List.setIfInBounds_toArray, List.set_cons_zero, List.set_cons_succ]
  refine wpAnyH_take (i := 2) (oi := ?rgO2) (v := ?rgV2) ?rgI2 (by kernel_rfl) (by kernel_rfl) (by kernel_rfl) ?rgQ2 (Or.inl ⟨?rgW2, ?rgY2⟩) hHeld ?rgR2
  case rgI2 => (simp only [List.getElem?_toArray, List.getElem?_cons_succ, List.getElem?_cons_zero]; exact rfl)
  case rgQ2 => exact fun _ _ _ h => h
  case rgW2 => kernel_rfl
  case rgY2 => (intro W hSw; clear hSw; have he := eqF1 W; have he2 := eqF2 W; go_simp; try with_reducible rfl)
  try simp only [Act.put, List.setIfInBounds_toArray, List.set_cons_zero, List.set_cons_succ]
  refine wpAnyH_take (i := 3) (oi := ?rgO3) (v := ?rgV3) ?rgI3 (by kernel_rfl) (by kernel_rfl) (by kernel_rfl) ?rgQ3 (Or.inl ⟨?rgW3, ?rgY3⟩) hHeld ?rgR3
  case rgI3 => (simp only [List.getElem?_toArray, List.getElem?_cons_succ, List.getElem?_cons_zero]; exact rfl)
  case rgQ3 => exact fun _ _ _ h => h
  case rgW3 => kernel_rfl
  case rgY3 => (intro W hSw; clear hSw; go_simp; try with_reducible rfl)
  try simp only [Act.put, List.setIfInBounds_toArray, List.set_cons_zero, List.set_cons_succ]
  refine wpAnyH_take (i := 4) (oi := ?rgO4) (v := ?rgV4) ?rgI4 (by kernel_rfl) (by kernel_rfl) (by kernel_rfl) ?rgQ4 (Or.inl ⟨?rgW4, ?rgY4⟩) hHeld ?rgR4
  case rgI4 => (simp only [List.getElem?_toArray, List.getElem?_cons_succ, List.getElem?_cons_zero]; exact rfl)
  case rgQ4 => exact fun _ _ _ h => h
  case rgW4 => kernel_rfl
  case rgY4 => (intro W hSw; obtain ⟨⟨c0, c1, c2⟩, _⟩ := three hSw.2.1; go_simp; try with_reducible rfl)
  try simp only [Act.put, List.setIfInBounds_toArray, List.set_cons_zero, List.set_cons_succ]
  refine wpAnyH_ready (rs := [5]) (by kernel_rfl) (by simp) ?_
  refine AllReadyH.cons (o := ?rgO5) ?rgI5 (fun K hK => ?rgR5) AllReadyH.nil
  case rgI5 => (simp only [List.getElem?_toArray, List.getElem?_cons_succ, List.getElem?_cons_zero]; exact rfl)
  rw [if_pos (by kernel_rfl)]
  go_simp
  refine (HFL.out _).mono ?_
  rintro e w' ⟨rfl, rfl⟩
  go_wp2_with fail
  clear hHeld
  refine hK.out _ _ (H0.out.below (by repeat (first | exact Below.refl _ _ | (with_reducible apply below_drewN) | (with_reducible apply Below.drew)))) (fun hHeld => ?_)
  clear hK K
  try simp only [Act.put, List.setIfInBounds_toArray, List.set_cons_zero, List.set_cons_succ]
  refine wpAnyH_take (i := 6) (oi := ?rgO6) (v := ?rgV6) ?rgI6 (by kernel_rfl) (by kernel_rfl) (by kernel_rfl) ?rgQ6 (Or.inl ⟨?rgW6, ?rgY6⟩) hHeld ?rgR6
  case rgI6 => (simp only [List.getElem?_toArray, List.getElem?_cons_succ, List.getElem?_cons_zero]; exact rfl)
  case rgQ6 => exact fun _ _ _ h => h
  case rgW6 => kernel_rfl
  case rgY6 => (intro W hSw; clear hSw; go_simp; try with_reducible rfl)
  try simp only [Act.put, List.setIfInBounds_toArray, List.set_cons_zero, List.set_cons_succ]
  refine wpAnyH_take (i := 7) (oi := ?rgO7) (v := ?rgV7) ?rgI7 (by kernel_rfl) (by kernel_rfl) (by kernel_rfl) ?rgQ7 (Or.inl ⟨?rgW7, ?rgY7⟩) hHeld ?rgR7
  case rgI7 => (simp only [List.getElem?_toArray, List.getElem?_cons_succ, List.getElem?_cons_zero]; exact rfl)
  case rgQ7 => exact fun _ _ _ h => h
  case rgW7 => kernel_rfl
  case rgY7 => (intro W hSw; clear hSw; have he := eqF3 W; have he2 := eqF4 W; go_simp; try with_reducible rfl)
  try simp only [Act.put, List.setIfInBounds_toArray, List.set_cons_zero, List.set_cons_succ]
  refine wpAnyH_take (i := 8) (oi := ?rgO8) (v := ?rgV8) ?rgI8 (by kernel_rfl) (by kernel_rfl) (by kernel_rfl) ?rgQ8 (Or.inl ⟨?rgW8, ?rgY8⟩) hHeld ?rgR8
  case rgI8 => (simp only [List.getElem?_toArray, List.getElem?_cons_succ, List.getElem?_cons_zero]; exact rfl)
  case rgQ8 => exact fun _ _ _ h => h
  case rgW8 => kernel_rfl
  case rgY8 => (intro W hSw; clear hSw; go_simp; try with_reducible rfl)
  try simp only [Act.put, List.setIfInBounds_toArray, List.set_cons_zero, List.set_cons_succ]
  refine wpAnyH_take (i := 9) (oi := ?rgO9) (v := ?rgV9) ?rgI9 (by kernel_rfl) (by kernel_rfl) (by kernel_rfl) ?rgQ9 (Or.inl ⟨?rgW9, ?rgY9⟩) hHeld ?rgR9
  case rgI9 => (simp only [List.getElem?_toArray, List.getElem?_cons_succ, List.getElem?_cons_zero]; exact rfl)
  case rgQ9 => exact fun _ _ _ h => h
  case rgW9 => kernel_rfl
  case rgY9 => (intro W hSw; clear hSw; go_simp; try with_reducible rfl)
  try simp only [Act.put, List.setIfInBounds_toArray, List.set_cons_zero, List.set_cons_succ]
  refine wpAnyH_take (i := 10) (oi := ?rgO10) (v := ?rgV10) ?rgI10 (by kernel_rfl) (by kernel_rfl) (by kernel_rfl) ?rgQ10 (Or.inl ⟨?rgW10, ?rgY10⟩) hHeld ?rgR10
  case rgI10 => (simp only [List.getElem?_toArray, List.getElem?_cons_succ, List.getElem?_cons_zero]; exact rfl)
  case rgQ10 => exact fun _ _ _ h => h
  case rgW10 => kernel_rfl
  case rgY10 => (intro W hSw; obtain ⟨⟨c0, c1, c2⟩, _⟩ := three hSw.2.2.1; go_simp; try with_reducible rfl)
  try simp only [Act.put, List.setIfInBounds_toArray, List.set_cons_zero, List.set_cons_succ]
  refine wpAnyH_take (i := 11) (oi := ?rgO11) (v := ?rgV11) ?rgI11 (by kernel_rfl) (by kernel_rfl) (by kernel_rfl) ?rgQ11 (Or.inl ⟨?rgW11, ?rgY11⟩) hHeld ?rgR11
  case rgI11 => (simp only [List.getElem?_toArray, List.getElem?_cons_succ, List.getElem?_cons_zero]; exact rfl)
  case rgQ11 => exact fun _ _ _ h => h
  case rgW11 => kernel_rfl
  case rgY11 => (intro W hSw; clear hSw; go_simp; try with_reducible rfl)
  try simp only [Act.put, List.setIfInBounds_toArray, List.set_cons_zero, List.set_cons_succ]
  refine wpAnyH_take (i := 12) (oi := ?rgO12) (v := ?rgV12) ?rgI12 (by kernel_rfl) (by kernel_rfl) (by kernel_rfl) ?rgQ12 (Or.inl ⟨?rgW12, ?rgY12⟩) hHeld ?rgR12
  case rgI12 => (simp only [List.getElem?_toArray, List.getElem?_cons_succ, List.getElem?_cons_zero]; exact rfl)
  case rgQ12 => exact fun _ _ _ h => h
  case rgW12 => kernel_rfl
  case rgY12 => (intro W hSw; clear hSw; have he := eqF5 W; go_simp; try with_reducible rfl)
  try simp only [Act.put, List.setIfInBounds_toArray, List.set_cons_zero, List.set_cons_succ]
  refine wpAnyH_take (i := 13) (oi := ?rgO13) (v := ?rgV13) ?rgI13 (by kernel_rfl) (by kernel_rfl) (by kernel_rfl) ?rgQ13 (Or.inl ⟨?rgW13, ?rgY13⟩) hHeld ?rgR13
  case rgI13 => (simp only [List.getElem?_toArray, List.getElem?_cons_succ, List.getElem?_cons_zero]; exact rfl)
  case rgQ13 => exact fun _ _ _ h => h
  case rgW13 => kernel_rfl
  case rgY13 => (intro W hSw; clear hSw; go_simp; try with_reducible rfl)
  try simp only [Act.put, List.setIfInBounds_toArray, List.set_cons_zero, List.set_cons_succ]
  refine wpAnyH_take (i := 14) (oi := ?rgO14) (v := ?rgV14) ?rgI14 (by kernel_rfl) (by kernel_rfl) (by kernel_rfl) ?rgQ14 (Or.inl ⟨?rgW14, ?rgY14⟩) hHeld ?rgR14
  case rgI14 => (simp only [List.getElem?_toArray, List.getElem?_cons_succ, List.getElem?_cons_zero]; exact rfl)
  case rgQ14 => exact fun _ _ _ h => h
  case rgW14 => kernel_rfl
  case rgY14 => (intro W hSw; clear hSw; go_simp; try with_reducible rfl)
  try simp only [Act.put, List.setIfInBounds_toArray, List.set_cons_zero, List.set_cons_succ]
  refine wpAnyH_take (i := 15) (oi := ?rgO15) (v := ?rgV15) ?rgI15 (by kernel_rfl) (by kernel_rfl) (by kernel_rfl) ?rgQ15 (Or.inl ⟨?rgW15, ?rgY15⟩) hHeld ?rgR15
  case rgI15 => (simp only [List.getElem?_toArray, List.getElem?_cons_succ, List.getElem?_cons_zero]; exact rfl)
  case rgQ15 => exact fun _ _ _ h => h
  case rgW15 => kernel_rfl
  case rgY15 => (intro W hSw; obtain ⟨⟨c0, c1, c2⟩, _⟩ := three hSw.1; go_simp; try with_reducible rfl)
  try simp only [Act.put, List.setIfInBounds_toArray, List.set_cons_zero, List.set_cons_succ]
  refine wpAnyH_ready (rs := [16]) (by kernel_rfl) (by simp) ?_
  refine AllReadyH.cons (o := ?rgO16) ?rgI16 (fun K hK => ?rgR16) AllReadyH.nil
  case rgI16 => (simp only [List.getElem?_toArray, List.getElem?_cons_succ, List.getElem?_cons_zero]; exact rfl)
  rw [if_pos (by kernel_rfl)]
  go_simp
  refine (HH1.out _).mono ?_
  rintro e wa ⟨rfl, hW⟩
  have Ha := Lib.hid (H0.out.below (below_next (by repeat (first | exact Below.refl _ _ | (with_reducible apply below_drewN) | (with_reducible apply Below.drew))) hW))
  clear hW
  go_wp2_with fail
  clear hHeld
  refine hK.out _ _ (Ha.out.below (by repeat (first | exact Below.refl _ _ | (with_reducible apply below_drewN) | (with_reducible apply Below.drew)))) (fun hHeld => ?_)
  clear hK K
  try simp only [Act.put, List.setIfInBounds_toArray, List.set_cons_zero, List.set_cons_succ]
  refine wpAnyH_take (i := 17) (oi := ?rgO17) (v := ?rgV17) ?rgI17 (by kernel_rfl) (by kernel_rfl) (by kernel_rfl) ?rgQ17 (Or.inl ⟨?rgW17, ?rgY17⟩) hHeld ?rgR17
  case rgI17 => (simp only [List.getElem?_toArray, List.getElem?_cons_succ, List.getElem?_cons_zero]; exact rfl)
  case rgQ17 => exact fun _ _ _ h => h
  case rgW17 => kernel_rfl
  case rgY17 => (intro W hSw; clear hSw; go_simp; try with_reducible rfl)
  try simp only [Act.put, List.setIfInBounds_toArray, List.set_cons_zero, List.set_cons_succ]
  refine wpAnyH_take (i := 18) (oi := ?rgO18) (v := ?rgV18) ?rgI18 (by kernel_rfl) (by kernel_rfl) (by kernel_rfl) ?rgQ18 (Or.inl ⟨?rgW18, ?rgY18⟩) hHeld ?rgR18
  case rgI18 => (simp only [List.getElem?_toArray, List.getElem?_cons_succ, List.getElem?_cons_zero]; exact rfl)
  case rgQ18 => exact fun _ _ _ h => h
  case rgW18 => kernel_rfl
  case rgY18 => (intro W hSw; clear hSw; go_simp; try with_reducible rfl)
  try simp only [Act.put, List.setIfInBounds_toArray, List.set_cons_zero, List.set_cons_succ]
  refine wpAnyH_take (i := 19) (oi := ?rgO19) (v := ?rgV19) ?rgI19 (by kernel_rfl) (by kernel_rfl) (by kernel_rfl) ?rgQ19 (Or.inl ⟨?rgW19, ?rgY19⟩) hHeld ?rgR19
  case rgI19 => (simp only [List.getElem?_toArray, List.getElem?_cons_succ, List.getElem?_cons_zero]; exact rfl)
  case rgQ19 => exact fun _ _ _ h => h
  case rgW19 => kernel_rfl
  case rgY19 => (intro W hSw; obtain ⟨⟨c0, c1, c2⟩, _⟩ := three hSw.1; go_simp; try with_reducible rfl)
  try simp only [Act.put, List.setIfInBounds_toArray, List.set_cons_zero, List.set_cons_succ]
  refine wpAnyH_ready (rs := [20]) (by kernel_rfl) (by simp) ?_
  refine AllReadyH.cons (o := ?rgO20) ?rgI20 (fun K hK => ?rgR20) AllReadyH.nil
  case rgI20 => (simp only [List.getElem?_toArray, List.getElem?_cons_succ, List.getElem?_cons_zero]; exact rfl)
  rw [if_pos (by kernel_rfl)]
  go_simp
  refine (HH2.out _).mono ?_
  rintro e wb ⟨rfl, hW⟩
  have Hb := Lib.hid (Ha.out.below (below_next (by repeat (first | exact Below.refl _ _ | (with_reducible apply below_drewN) | (with_reducible apply Below.drew))) hW))
  clear hW
  go_wp2_with fail
  clear hHeld
  refine hK.out _ _ (Hb.out.below (by repeat (first | exact Below.refl _ _ | (with_reducible apply below_drewN) | (with_reducible apply Below.drew)))) (fun hHeld => ?_)
  clear hK K
  try simp only [Act.put, List.setIfInBounds_toArray, List.set_cons_zero, List.set_cons_succ]
  refine wpAnyH_take (i := 21) (oi := ?rgO21) (v := ?rgV21) ?rgI21 (by kernel_rfl) (by kernel_rfl) (by kernel_rfl) ?rgQ21 (Or.inl ⟨?rgW21, ?rgY21⟩) hHeld ?rgR21
  case rgI21 => (simp only [List.getElem?_toArray, List.getElem?_cons_succ, List.getElem?_cons_zero]; exact rfl)
  case rgQ21 => exact fun _ _ _ h => h
  case rgW21 => kernel_rfl
  case rgY21 => (intro W hSw; clear hSw; go_simp; try with_reducible rfl)
  try simp only [Act.put, List.setIfInBounds_toArray, List.set_cons_zero, List.set_cons_succ]
  refine wpAnyH_take (i := 22) (oi := ?rgO22) (v := ?rgV22) ?rgI22 (by kernel_rfl) (by kernel_rfl) (by kernel_rfl) ?rgQ22 (Or.inl ⟨?rgW22, ?rgY22⟩) hHeld ?rgR22
  case rgI22 => (simp only [List.getElem?_toArray, List.getElem?_cons_succ, List.getElem?_cons_zero]; exact rfl)
  case rgQ22 => exact fun _ _ _ h => h
  case rgW22 => kernel_rfl
  case rgY22 => (intro W hSw; clear hSw; go_simp; try with_reducible rfl)
  try simp only [Act.put, List.setIfInBounds_toArray, List.set_cons_zero, List.set_cons_succ]
  refine wpAnyH_take (i := 23) (oi := ?rgO23) (v := ?rgV23) ?rgI23 (by kernel_rfl) (by kernel_rfl) (by kernel_rfl) ?rgQ23 (Or.inl ⟨?rgW23, ?rgY23⟩) hHeld ?rgR23
  case rgI23 => (simp only [List.getElem?_toArray, List.getElem?_cons_succ, List.getElem?_cons_zero]; exact rfl)
  case rgQ23 => exact fun _ _ _ h => h
  case rgW23 => kernel_rfl
  case rgY23 => (intro W hSw; clear hSw; go_simp; try with_reducible rfl)
  try simp only [Act.put, List.setIfInBounds_toArray, List.set_cons_zero, List.set_cons_succ]
  refine wpAnyH_take (i := 24) (oi := ?rgO24) (v := ?rgV24) ?rgI24 (by kernel_rfl) (by kernel_rfl) (by kernel_rfl) ?rgQ24 (Or.inl ⟨?rgW24, ?rgY24⟩) hHeld ?rgR24
  case rgI24 => (simp only [List.getElem?_toArray, List.getElem?_cons_succ, List.getElem?_cons_zero]; exact rfl)
  case rgQ24 => exact fun _ _ _ h => h
  case rgW24 => kernel_rfl
  case rgY24 => (intro W hSw; obtain ⟨⟨c0, c1, c2⟩, _⟩ := three hSw.2.1; go_simp; try with_reducible rfl)
  try simp only [Act.put, List.setIfInBounds_toArray, List.set_cons_zero, List.set_cons_succ]
  refine wpAnyH_take (i := 25) (oi := ?rgO25) (v := ?rgV25) ?rgI25 (by kernel_rfl) (by kernel_rfl) (by kernel_rfl) ?rgQ25 (Or.inl ⟨?rgW25, ?rgY25⟩) hHeld ?rgR25
  case rgI25 => (simp only [List.getElem?_toArray, List.getElem?_cons_succ, List.getElem?_cons_zero]; exact rfl)
  case rgQ25 => exact fun _ _ _ h => h
  case rgW25 => kernel_rfl
  case rgY25 => (intro W hSw; obtain ⟨⟨c0, c1, c2⟩, _⟩ := three hSw.1; go_simp; try with_reducible rfl)
  try simp only [Act.put, List.setIfInBounds_toArray, List.set_cons_zero, List.set_cons_succ]
  refine wpAnyH_ready (rs := [26]) (by kernel_rfl) (by simp) ?_
  refine AllReadyH.cons (o := ?rgO26) ?rgI26 (fun K hK => ?rgR26) AllReadyH.nil
  case rgI26 => (simp only [List.getElem?_toArray, List.getElem?_cons_succ, List.getElem?_cons_zero]; exact rfl)
  rw [if_pos (by kernel_rfl)]
  go_simp
  refine (HI.out _).mono ?_
  rintro e wc ⟨rfl, hW⟩
  have Hc := Lib.hid (Hb.out.below (below_next (by repeat (first | exact Below.refl _ _ | (with_reducible apply below_drewN) | (with_reducible apply Below.drew))) hW))
  clear hW
  go_wp2_with fail
  clear hHeld
  refine hK.out _ _ (Hc.out.below (by repeat (first | exact Below.refl _ _ | (with_reducible apply below_drewN) | (with_reducible apply Below.drew)))) (fun hHeld => ?_)
  clear hK K
  try simp only [Act.put, List.setIfInBounds_toArray, List.set_cons_zero, List.set_cons_succ]
  refine wpAnyH_take (i := 27) (oi := ?rgO27) (v := ?rgV27) ?rgI27 (by kernel_rfl) (by kernel_rfl) (by kernel_rfl) ?rgQ27 (Or.inl ⟨?rgW27, ?rgY27⟩) hHeld ?rgR27
  case rgI27 => (simp only [List.getElem?_toArray, List.getElem?_cons_succ, List.getElem?_cons_zero]; exact rfl)
  case rgQ27 => exact fun _ _ _ h => h
  case rgW27 => kernel_rfl
  case rgY27 => (intro W hSw; clear hSw; go_simp; try with_reducible rfl)
  try simp only [Act.put, List.setIfInBounds_toArray, List.set_cons_zero, List.set_cons_succ]
  refine wpAnyH_take (i := 28) (oi := ?rgO28) (v := ?rgV28) ?rgI28 (by kernel_rfl) (by kernel_rfl) (by kernel_rfl) ?rgQ28 (Or.inl ⟨?rgW28, ?rgY28⟩) hHeld ?rgR28
  case rgI28 => (simp only [List.getElem?_toArray, List.getElem?_cons_succ, List.getElem?_cons_zero]; exact rfl)
  case rgQ28 => exact fun _ _ _ h => h
  case rgW28 => kernel_rfl
  case rgY28 => (intro W hSw; clear hSw; go_simp; try with_reducible rfl)
  try simp only [Act.put, List.setIfInBounds_toArray, List.set_cons_zero, List.set_cons_succ]
  refine wpAnyH_done (by kernel_rfl) ?_ _
  refine NoPanic.normal ?_
  go_wp2
  go_ret
  exact ⟨rfl, (Hc.out.below (by repeat (first | exact Below.refl _ _ | (with_reducible apply below_drewN) | (with_reducible apply Below.drew)))).2.2.2⟩
end Go.Proofs.YtikdhkmcdmnadaaGreatFmt
