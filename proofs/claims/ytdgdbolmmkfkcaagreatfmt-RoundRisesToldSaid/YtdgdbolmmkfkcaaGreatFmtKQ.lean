import Derived.Test.YtdgdbolmmkfkcaaGreatFmtJ39
namespace Go.Proofs.YtdgdbolmmkfkcaaGreatFmt
open Go.RowKit
attribute [local go_sem ↓] Go.wp_at_zero Go.wp_at_succ

/-! ### RoundRises -/
theorem ord_le {d X Y : Int} {x y : Nat} (h : X ≤ Y) (hx : rndS d 2148 X = some x) (hy : rndS d 2148 Y = some y) : ∃ o, Ieee.double.order x y = some o ∧ (o = .lt ∨ o = .eq) := by
  obtain ⟨a, r, b, s, rfl, rfl, hr, hs, hle⟩ := rnd_mono (by decide) h d hx hy
  refine ⟨_, order_sgn hr hs, ?_⟩
  rcases Int.lt_or_eq_of_le hle with h | h
  · rw [Int.compare_eq_lt.2 h]; exact .inl rfl
  · rw [Int.compare_eq_eq.2 h]; exact .inr rfl
theorem asked_some {c d : Int} {u v : Nat} {x : Nat} (h : askS c d u v = some x) : (fin u && fin v) = true ∧ rndS d 2148 (exS c u v) = some x := by
  rcases hp : pairB d u v with _ | _
  · rw [ask_false hp] at h; cases h
  · rw [ask_true hp] at h
    have := pairB_true hp
    rw [this.1, this.2.1]
    exact ⟨rfl, h⟩
set_option maxHeartbeats 4000000 in
set_option maxRecDepth 100000 in
theorem rises_walk (d one two : Int) (u v p q : Nat) (hu : u < 18446744073709551616) (hv : v < 18446744073709551616) (hp : p < 18446744073709551616) (hq : q < 18446744073709551616) (w : World) :
    Calls Tryz.prog 4 #[.int .i64 d, .int .i64 one, .float .f64 u, .float .f64 v, .int .i64 two, .float .f64 p, .float .f64 q] w fun e w' => e = .returned (.bool true) ∧ Below w.heap.size w w' := by
  have hm1 : -2 ≤ one.tmod 3 ∧ one.tmod 3 ≤ 2 := by
    have := Int.tmod_lt_of_pos one (show (0 : Int) < 3 by decide)
    have := Int.lt_tmod_of_pos one (show (0 : Int) < 3 by decide)
    omega
  have hm2 : -2 ≤ two.tmod 3 ∧ two.tmod 3 ≤ 2 := by
    have := Int.tmod_lt_of_pos two (show (0 : Int) < 3 by decide)
    have := Int.lt_tmod_of_pos two (show (0 : Int) < 3 by decide)
    omega
  have HB := Lib.hid (And.intro hu (And.intro hv (And.intro hp hq)))
  clear hu hv hp hq
  go_enter Tryz.func4, Tryz.ntmps4
  go_wp2_with fail
  obtain ⟨k, hk⟩ : ∃ k, 1 + one.tmod 3 % 3 = k := ⟨_, rfl⟩
  obtain ⟨j, hj⟩ : ∃ k, 1 + two.tmod 3 % 3 = k := ⟨_, rfl⟩
  have hk3 : k = 1 ∨ k = 2 ∨ k = 3 := by omega
  have hj3 : j = 1 ∨ j = 2 ∨ j = 3 := by omega
  rw [hk, hj]
  have HK := Lib.hid (And.intro hk3 hj3)
  clear hk hk3 hm1 hj hj3 hm2
  refine (lexact_calls k u v w.heap.size HB.out.1 HB.out.2.1 HK.out.1 w (Nat.le_refl _)).mono ?_
  rintro e w1 ⟨n1, A1, l1, c1, x1, rfl, hR, hW⟩
  have hB := below_new (Below.refl w1.heap.size w1) (.cells #[.bool n1, .slice A1 l1 c1, .int .i64 x1] 25)
  have H1 := Lib.hid (And.intro (num_blk w1 n1 A1 l1 c1 x1) (And.intro (hR.below hB) (below_next hW hB)))
  clear hR hW hB
  go_wp2_with fail
  refine (lexact_calls j p q w.heap.size HB.out.2.2.1 HB.out.2.2.2 HK.out.2 _ H1.out.2.2.size).mono ?_
  rintro e w2 ⟨n2, A2, l2, c2, x2, rfl, hR, hW⟩
  have hB := below_new (Below.refl w2.heap.size w2) (.cells #[.bool n2, .slice A2 l2 c2, .int .i64 x2] 25)
  have hb1 := below_next hW hB
  have H2 := Lib.hid (And.intro (H1.out.1.below' hb1) (And.intro (H1.out.2.1.below hb1) (And.intro (num_blk w2 n2 A2 l2 c2 x2) (And.intro (hR.below hB) (below_next H1.out.2.2 hb1)))))
  clear hR hW hB hb1 H1
  go_wp2_with fail
  refine (asked_calls k d u v HB.out.1 HB.out.2.1 HK.out.1 _).mono ?_
  rintro e w3 ⟨rfl, hW⟩
  have H3 := Lib.hid (And.intro (H2.out.1.below' hW) (And.intro (H2.out.2.1.below hW) (And.intro (H2.out.2.2.1.below' hW) (And.intro (H2.out.2.2.2.1.below hW) (below_next H2.out.2.2.2.2 hW)))))
  clear hW H2
  unfold fRet2
  obtain ⟨o1, ho1⟩ : ∃ o, askS k d u v = o := ⟨_, rfl⟩
  rw [ho1]
  go_wp2_with fail
  refine (asked_calls j d p q HB.out.2.2.1 HB.out.2.2.2 HK.out.2 _).mono ?_
  rintro e w4 ⟨rfl, hW⟩
  have H4 := Lib.hid (And.intro (H3.out.1.below' hW) (And.intro (H3.out.2.1.below hW) (And.intro (H3.out.2.2.1.below' hW) (And.intro (H3.out.2.2.2.1.below hW) (below_next H3.out.2.2.2.2 hW)))))
  clear hW H3
  unfold fRet2
  obtain ⟨o2, ho2⟩ : ∃ o, askS j d p q = o := ⟨_, rfl⟩
  rw [ho2]
  have hX := exV_bd k HB.out.1 HB.out.2.1 HK.out.1
  have hY := exV_bd j HB.out.2.2.1 HB.out.2.2.2 HK.out.2
  rcases o1 with _ | z1
  · obtain ⟨f1, hf1⟩ : ∃ f, (fin u && fin v) = f := ⟨_, rfl⟩
    obtain ⟨f2, hf2⟩ : ∃ f, (fin p && fin q) = f := ⟨_, rfl⟩
    obtain ⟨b2, hb2⟩ : ∃ f, o2.isSome = f := ⟨_, rfl⟩
    obtain ⟨z2, hz2⟩ : ∃ f, o2.getD 0 = f := ⟨_, rfl⟩
    rw [hf1, hf2, hb2, hz2]
    have H4' : Hid (Below w.heap.size w w4) := H4.out.2.2.2.2
    simp only [Option.getD_none, Option.isSome_none]
    clear H4 ho1 ho2 hX hY hf1 hf2 hb2 hz2
    cases f1 <;> cases f2
    all_goals (
      go_wp2_with fail
      refine (started_calls _).mono ?_
      rintro e w6 ⟨rfl, hW⟩
      have H6 := Lib.hid (below_next H4'.out hW)
      clear hW
      go_wp2
      go_ret
      exact ⟨rfl, H6.out⟩)
  · rcases o2 with _ | z2
    · obtain ⟨f1, hf1⟩ : ∃ f, (fin u && fin v) = f := ⟨_, rfl⟩
      obtain ⟨f2, hf2⟩ : ∃ f, (fin p && fin q) = f := ⟨_, rfl⟩
      rw [hf1, hf2]
      have H4' : Hid (Below w.heap.size w w4) := H4.out.2.2.2.2
      simp only [Option.getD_none, Option.isSome_none, Option.getD_some, Option.isSome_some]
      clear H4 ho1 ho2 hX hY hf1 hf2
      cases f1 <;> cases f2
      all_goals (
        go_wp2_with fail
        refine (started_calls _).mono ?_
        rintro e w6 ⟨rfl, hW⟩
        have H6 := Lib.hid (below_next H4'.out hW)
        clear hW
        go_wp2
        go_ret
        exact ⟨rfl, H6.out⟩)
    · obtain ⟨g1, g2⟩ := asked_some ho1
      obtain ⟨g3, g4⟩ := asked_some ho2
      rw [g1, if_pos rfl] at hX
      rw [g3, if_pos rfl] at hY
      have HS : Hid (∀ W (hW : Below w4.heap.size w4 W), Calls Tryz.prog 14 #[.agg #[.bool n1, .slice A1 l1 c1, .int .i64 x1], .agg #[.bool n2, .slice A2 l2 c2, .int .i64 x2]] W fun r w' => r = .returned (.int .i64 (Int.sign (exS k u v - exS j p q))) ∧ Below W.heap.size W w') := by
        have h1 := H4.out.2.1
        have h2 := H4.out.2.2.2.1
        rw [g1, if_pos rfl] at h1
        rw [g3, if_pos rfl] at h2
        exact fun W hW => cmp_num 2148 w.heap.size 5000 _ _ _ _ W (Nat.le_trans H4.out.2.2.2.2.size hW.size) (h1.below hW) (h2.below hW) hX hY (by decide) (by decide)
      rw [g1, g3]
      obtain ⟨⟨y0, y1, y2⟩, _⟩ := three H4.out.1
      obtain ⟨⟨t0, t1, t2⟩, _⟩ := three H4.out.2.2.1
      simp only [Option.getD_some, Option.isSome_some]
      have hs3 : (Int.sign (exS k u v - exS j p q) = -1 ∧ exS k u v ≤ exS j p q) ∨ (Int.sign (exS k u v - exS j p q) = 0 ∧ exS k u v ≤ exS j p q) ∨ (Int.sign (exS k u v - exS j p q) = 1 ∧ exS j p q ≤ exS k u v) := by
        rcases Int.lt_trichotomy (exS k u v - exS j p q) 0 with h | h | h
        · exact .inl ⟨Int.sign_eq_neg_one_of_neg h, by omega⟩
        · exact .inr (.inl ⟨by rw [h]; rfl, by omega⟩)
        · exact .inr (.inr ⟨Int.sign_eq_one_of_pos h, by omega⟩)
      have fin1 : exS k u v ≤ exS j p q → (FloatKind.f64.format.order z1 z2 == some .lt || FloatKind.f64.format.order z1 z2 == some .eq) = true := fun h => by
        obtain ⟨o, ho, h3⟩ := ord_le h g2 g4
        have ho' : FloatKind.f64.format.order z1 z2 = some o := ho
        rw [ho']; rcases h3 with rfl | rfl <;> rfl
      have fin2 : exS j p q ≤ exS k u v → (FloatKind.f64.format.order z2 z1 == some .lt || FloatKind.f64.format.order z2 z1 == some .eq) = true := fun h => by
        obtain ⟨o, ho, h3⟩ := ord_le h g4 g2
        have ho' : FloatKind.f64.format.order z2 z1 = some o := ho
        rw [ho']; rcases h3 with rfl | rfl <;> rfl
      rcases hs3 with ⟨hs, hle⟩ | ⟨hs, hle⟩ | ⟨hs, hle⟩
      · have hf := fin1 hle
        rw [hs] at HS
        clear hs hle fin1 fin2 hX hY g1 g2 g3 g4 ho1 ho2
        go_wp2_with fail
        refine (HS.out _ (Below.refl _ _)).mono ?_
        rintro e w5 ⟨rfl, hW⟩
        have H5 := Lib.hid (below_next H4.out.2.2.2.2 hW)
        clear hW
        go_wp2_with fail
        refine (started_calls _).mono ?_
        rintro e w6 ⟨rfl, hW⟩
        have H6 := Lib.hid (below_next H5.out hW)
        clear hW
        go_wp2
        go_ret
        exact ⟨rfl, H6.out⟩
      · have hf := fin1 hle
        rw [hs] at HS
        clear hs hle fin1 fin2 hX hY g1 g2 g3 g4 ho1 ho2
        go_wp2_with fail
        refine (HS.out _ (Below.refl _ _)).mono ?_
        rintro e w5 ⟨rfl, hW⟩
        have H5 := Lib.hid (below_next H4.out.2.2.2.2 hW)
        clear hW
        go_wp2_with fail
        refine (started_calls _).mono ?_
        rintro e w6 ⟨rfl, hW⟩
        have H6 := Lib.hid (below_next H5.out hW)
        clear hW
        go_wp2
        go_ret
        exact ⟨rfl, H6.out⟩
      · have hf := fin2 hle
        rw [hs] at HS
        clear hs hle fin1 fin2 hX hY g1 g2 g3 g4 ho1 ho2
        go_wp2_with fail
        refine (HS.out _ (Below.refl _ _)).mono ?_
        rintro e w5 ⟨rfl, hW⟩
        have H5 := Lib.hid (below_next H4.out.2.2.2.2 hW)
        clear hW
        go_wp2_with fail
        refine (started_calls _).mono ?_
        rintro e w6 ⟨rfl, hW⟩
        have H6 := Lib.hid (below_next H5.out hW)
        clear hW
        go_wp2
        go_ret
        exact ⟨rfl, H6.out⟩
end Go.Proofs.YtdgdbolmmkfkcaaGreatFmt
