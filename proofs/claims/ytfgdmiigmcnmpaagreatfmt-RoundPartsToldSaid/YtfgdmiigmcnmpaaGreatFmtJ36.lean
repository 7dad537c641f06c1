/- Walks and plain laws of this seat's functions, part 36: Q17a Q17 Q18 Q19. -/
import Derived.Test.YtfgdmiigmcnmpaaGreatFmtJ30
import Derived.Test.YtfgdmiigmcnmpaaGreatFmtJ31
import Derived.Test.YtfgdmiigmcnmpaaGreatFmtJ32
import Derived.Test.YtfgdmiigmcnmpaaGreatFmtJ34
import Derived.Test.YtfgdmiigmcnmpaaGreatFmtJ35
set_option linter.unusedVariables false
set_option linter.unusedSimpArgs false
namespace Go.Proofs.YtfgdmiigmcnmpaaGreatFmt
open Go.RowKit
attribute [local go_sem ↓] Go.wp_at_zero Go.wp_at_succ

/-! ### ref2.two -/
theorem two_new (w : World) {W : World} (hW : (w.alloc (.cells #[.bool false, .slice none 0 0, .int .i64 0] 25)).alloc (.cells #[.bool false, .slice none 0 0, .int .i64 0] 25) = W) :
    Blk W w.heap.size 25 [.bool false, .slice none 0 0, .int .i64 0] ∧ Blk W (w.heap.size + 1) 25 [.bool false, .slice none 0 0, .int .i64 0] ∧ Below w.heap.size w W := by
  have h2 := num_new (w.alloc (.cells #[.bool false, .slice none 0 0, .int .i64 0] 25))
  subst hW
  refine ⟨(num_new w).alloc _, ?_, below_new (below_new (Below.refl _ _) _) _⟩
  simpa using h2
theorem two_store {w0 w : World} {b : Nat} {X Y : Int} {n1 n2 : Bool} {A1 A2 : Option Addr} {l1 l2 c1 c2 : Nat} {x1 x2 : Int} (h4 : Blk w b 25 [.bool false, .slice none 0 0, .int .i64 0]) (h5 : Blk w (b + 1) 25 [.bool false, .slice none 0 0, .int .i64 0]) (hX : NumC 1074 w b X n1 A1 l1 c1 x1) (hY : NumC 1074 w b Y n2 A2 l2 c2 x2) (hW : Below b w0 w) {W : World}
    (e : (((((w.setCell ⟨b, 0, none⟩ (.bool n1)).setCell ⟨b, 1, none⟩ (.slice A1 l1 c1)).setCell ⟨b, 2, none⟩ (.int .i64 x1)).setCell ⟨b + 1, 0, none⟩ (.bool n2)).setCell ⟨b + 1, 1, none⟩ (.slice A2 l2 c2)).setCell ⟨b + 1, 2, none⟩ (.int .i64 x2) = W) :
    Blk W b 25 [.bool n1, .slice A1 l1 c1, .int .i64 x1] ∧ Blk W (b + 1) 25 [.bool n2, .slice A2 l2 c2, .int .i64 x2] ∧ NumC 1074 W b X n1 A1 l1 c1 x1 ∧ NumC 1074 W b Y n2 A2 l2 c2 x2 ∧ Below b w0 W := by
  obtain ⟨w1, e1⟩ : ∃ W, ((w.setCell ⟨b, 0, none⟩ (.bool n1)).setCell ⟨b, 1, none⟩ (.slice A1 l1 c1)).setCell ⟨b, 2, none⟩ (.int .i64 x1) = W := ⟨_, rfl⟩
  rw [e1] at e
  obtain ⟨p1, p2, p3⟩ := num_store h4 hX (Nat.le_refl _) hW e1
  have hne : b + 1 ≠ b := by omega
  have h5' : Blk w1 (b + 1) 25 [.bool false, .slice none 0 0, .int .i64 0] := by
    rw [← e1]; exact ((h5.far (p := ⟨b, 0, none⟩) hne _).far (p := ⟨b, 1, none⟩) hne _).far (p := ⟨b, 2, none⟩) hne _
  have hY' : NumC 1074 w1 b Y n2 A2 l2 c2 x2 := by
    rw [← e1]; exact ((hY.set h4 (Nat.le_refl _) 0 _).set (h4.set 0 _) (Nat.le_refl _) 1 _).set ((h4.set 0 _).set 1 _) (Nat.le_refl _) 2 _
  subst e
  have hb1 : b ≤ b + 1 := by omega
  refine ⟨((p1.far (p := ⟨b + 1, 0, none⟩) (Ne.symm hne) _).far (p := ⟨b + 1, 1, none⟩) (Ne.symm hne) _).far (p := ⟨b + 1, 2, none⟩) (Ne.symm hne) _, ((h5'.set 0 _).set 1 _).set 2 _, ((p2.set h5' hb1 0 _).set (h5'.set 0 _) hb1 1 _).set ((h5'.set 0 _).set 1 _) hb1 2 _, ((hY'.set h5' hb1 0 _).set (h5'.set 0 _) hb1 1 _).set ((h5'.set 0 _).set 1 _) hb1 2 _, ?_⟩
  exact ((p3.setCell (p := ⟨b + 1, 0, none⟩) hb1 _).setCell (p := ⟨b + 1, 1, none⟩) hb1 _).setCell (p := ⟨b + 1, 2, none⟩) hb1 _
set_option maxHeartbeats 2000000 in
set_option maxRecDepth 100000 in
theorem two_calls (u v : Nat) (hu : u < 18446744073709551616) (hv : v < 18446744073709551616) (w : World) :
    Calls Tryz.prog 55 #[.int .u64 u, .int .u64 v] w fun e w' => ∃ (n1 n2 : Bool) (A1 A2 : Option Addr) (l1 l2 c1 c2 : Nat) (x1 x2 : Int), e = .returned (.tuple #[.agg #[.bool n1, .slice A1 l1 c1, .int .i64 x1], .agg #[.bool n2, .slice A2 l2 c2, .int .i64 x2], .bool (fin u && fin v)]) ∧ NumC 1074 w' w.heap.size (numV u) n1 A1 l1 c1 x1 ∧ NumC 1074 w' w.heap.size (numV v) n2 A2 l2 c2 x2 ∧ Below w.heap.size w w' := by
  have HU := Lib.hid (fun W => of_calls u w.heap.size W hu)
  have HV := Lib.hid (fun W => of_calls v w.heap.size W hv)
  obtain ⟨f1, h1⟩ : ∃ f, fin u = f := ⟨_, rfl⟩
  obtain ⟨f2, h2⟩ : ∃ f, fin v = f := ⟨_, rfl⟩
  rw [h1] at HU
  rw [h2] at HV
  rw [h1, h2]
  clear hu hv h1 h2
  go_enter Tryz.func55, Tryz.ntmps55
  go_wp2_with fail
  have H0 := Lib.hid (two_new w rfl)
  refine (HU.out _).mono ?_
  rintro e w1 ⟨n1, A1, l1, c1, x1, rfl, hR, hW⟩
  have hB := below_new (Below.refl w1.heap.size w1) (.cells #[.bool n1, .slice A1 l1 c1, .int .i64 x1] 25)
  have hb1 := below_next hW hB
  have hlt1 : w.heap.size + 1 < w1.heap.size := (H0.out.2.1.below' hW).lt
  have H1 := Lib.hid (And.intro (H0.out.1.below' hb1) (And.intro (H0.out.2.1.below' hb1) (And.intro (num_blk w1 n1 A1 l1 c1 x1) (And.intro (hR.below hB) (below_next H0.out.2.2 hb1)))))
  clear hR hW hB hb1 H0
  go_wp2_with fail
  refine (HV.out _).mono ?_
  rintro e w2 ⟨n2, A2, l2, c2, x2, rfl, hR, hW⟩
  have hB := below_new (Below.refl w2.heap.size w2) (.cells #[.bool n2, .slice A2 l2 c2, .int .i64 x2] 25)
  have hb1 := below_next hW hB
  have hlt2 : w1.heap.size < w2.heap.size := (H1.out.2.2.1.below' hW).lt
  have H2 := Lib.hid (And.intro (H1.out.1.below' hb1) (And.intro (H1.out.2.1.below' hb1) (And.intro (H1.out.2.2.1.below' hb1) (And.intro (num_blk w2 n2 A2 l2 c2 x2) (And.intro (H1.out.2.2.2.1.below hb1) (And.intro (hR.below hB) (below_next H1.out.2.2.2.2 hb1)))))))
  clear hR hW hB hb1 H1
  go_wp2
  obtain ⟨w3, hw3⟩ : ∃ W, w2.alloc (.cells #[.bool n2, .slice A2 l2 c2, .int .i64 x2] 25) = W := ⟨_, rfl⟩
  rw [hw3] at H2 ⊢
  clear hw3
  obtain ⟨⟨a0, a1, a2⟩, _⟩ := three H2.out.2.2.1
  obtain ⟨⟨b0, b1, b2⟩, _⟩ := three H2.out.2.2.2.1
  obtain ⟨⟨r0, r1, r2⟩, t0, t1, t2⟩ := three H2.out.1
  obtain ⟨⟨s0, s1, s2⟩, v0, v1, v2⟩ := three H2.out.2.1
  have g1 : ¬ w2.heap.size = w.heap.size := by omega
  have g2 : ¬ w2.heap.size = w.heap.size + 1 := by omega
  have g3 : ¬ w1.heap.size = w.heap.size := by omega
  have g4 : ¬ w1.heap.size = w.heap.size + 1 := by omega
  obtain ⟨w9, hw9⟩ : ∃ W, (((((w3.setCell ⟨w.heap.size, 0, none⟩ (.bool n1)).setCell ⟨w.heap.size, 1, none⟩ (.slice A1 l1 c1)).setCell ⟨w.heap.size, 2, none⟩ (.int .i64 x1)).setCell ⟨w.heap.size + 1, 0, none⟩ (.bool n2)).setCell ⟨w.heap.size + 1, 1, none⟩ (.slice A2 l2 c2)).setCell ⟨w.heap.size + 1, 2, none⟩ (.int .i64 x2) = W := ⟨_, rfl⟩
  have HS := Lib.hid (two_store H2.out.1 H2.out.2.1 (H2.out.2.2.2.2.1) (H2.out.2.2.2.2.2.1) H2.out.2.2.2.2.2.2 hw9)
  have HE := Lib.hid hw9
  clear hw9
  cases f1
  all_goals (
    go_region
    all_goals (
      go_wp2
      rw [HE.out]
      obtain ⟨⟨m0, m1, m2⟩, _⟩ := three HS.out.1
      obtain ⟨⟨p0, p1, p2⟩, _⟩ := three HS.out.2.1
      have hd := Below.drew (Below.refl w9.heap.size w9)
      have m0' := m0
      first
        | exact bodyPost_ret (v := .tuple #[.agg #[.bool n1, .slice A1 l1 c1, .int .i64 x1], .agg #[.bool n2, .slice A2 l2 c2, .int .i64 x2], .bool false]) (by simp [results, Tryz.results55, go_sem, m0, m1, m2, p0, p1, p2]) rfl ⟨n1, n2, A1, A2, l1, l2, c1, c2, x1, x2, rfl, HS.out.2.2.1.below hd, HS.out.2.2.2.1.below hd, HS.out.2.2.2.2.drew⟩
        | exact bodyPost_ret (v := .tuple #[.agg #[.bool n1, .slice A1 l1 c1, .int .i64 x1], .agg #[.bool n2, .slice A2 l2 c2, .int .i64 x2], .bool f2]) (by simp [results, Tryz.results55, go_sem, m0, m1, m2, p0, p1, p2]) rfl ⟨n1, n2, A1, A2, l1, l2, c1, c2, x1, x2, rfl, HS.out.2.2.1.below hd, HS.out.2.2.2.1.below hd, HS.out.2.2.2.2.drew⟩))
end Go.Proofs.YtfgdmiigmcnmpaaGreatFmt

namespace Go.Proofs.YtfgdmiigmcnmpaaGreatFmt
open Go.RowKit
attribute [local go_sem ↓] Go.wp_at_zero Go.wp_at_succ

/-! ### ref2.Over of any two, Div; RoundQuotients -/
set_option maxHeartbeats 1000000 in
set_option maxRecDepth 100000 in
theorem over_out (d : Int) (hd : d < 0 ∨ 2 < d) (nx ny : Bool) (A1 A2 : Option Addr) (l1 l2 k1 k2 : Nat) (x1 x2 : Int) (w : World) :
    Calls Tryz.prog 79 #[.int .i64 d, .agg #[.bool nx, .slice A1 l1 k1, .int .i64 x1], .agg #[.bool ny, .slice A2 l2 k2, .int .i64 x2]] w fun r w' => r = optRet none ∧ Below w.heap.size w w' := by
  have HB := Lib.hid (two_boxes w nx ny A1 A2 l1 l2 k1 k2 x1 x2 rfl)
  rcases hd with hd | hd
  · go_enter Tryz.func79, Tryz.ntmps79
    go_wp2
    go_ret2
    exact ⟨rfl, HB.out.2.2⟩
  · have hd1 : ¬ d < 0 := by omega
    go_enter Tryz.func79, Tryz.ntmps79
    go_wp2
    go_ret2
    exact ⟨rfl, HB.out.2.2⟩
set_option maxHeartbeats 1000000 in
set_option maxRecDepth 100000 in
theorem over_nil (d : Int) (hd : 0 ≤ d ∧ d ≤ 2) (nx ny : Bool) (A1 A2 : Option Addr) (l1 k1 k2 : Nat) (x1 x2 : Int) (w : World) :
    Calls Tryz.prog 79 #[.int .i64 d, .agg #[.bool nx, .slice A1 l1 k1, .int .i64 x1], .agg #[.bool ny, .slice A2 0 k2, .int .i64 x2]] w fun r w' => r = optRet none ∧ Below w.heap.size w w' := by
  have HB := Lib.hid (two_boxes w nx ny A1 A2 l1 0 k1 k2 x1 x2 rfl)
  have hd1 : ¬ d < 0 := by omega
  have hd2 : ¬ 2 < d := by omega
  go_enter Tryz.func79, Tryz.ntmps79
  go_wp2
  go_ret2
  exact ⟨rfl, HB.out.2.2⟩
set_option maxHeartbeats 1000000 in
set_option maxRecDepth 100000 in
theorem over_nought (d : Int) (hd : 0 ≤ d ∧ d ≤ 2) (nx ny : Bool) (A1 A2 : Option Addr) (l2 k1 k2 : Nat) (x1 x2 : Int) (w : World) (hl : l2 ≠ 0) :
    Calls Tryz.prog 79 #[.int .i64 d, .agg #[.bool nx, .slice A1 0 k1, .int .i64 x1], .agg #[.bool ny, .slice A2 l2 k2, .int .i64 x2]] w fun r w' => r = optRet (some 0) ∧ Below w.heap.size w w' := by
  have HB := Lib.hid (two_boxes w nx ny A1 A2 0 l2 k1 k2 x1 x2 rfl)
  have hd1 : ¬ d < 0 := by omega
  have hd2 : ¬ 2 < d := by omega
  have hn : ((l2 : Int) == 0) = false := by simp; exact hl
  go_enter Tryz.func79, Tryz.ntmps79
  go_wp2
  go_ret2
  exact ⟨rfl, HB.out.2.2⟩
/-- of two numbers of float64 -/
theorem over_calls (d : Int) (u v base : Nat) (hu : u < 18446744073709551616) (hv : v < 18446744073709551616) (fu : fin u = true) (fv' : fin v = true) (nx ny : Bool) (A1 A2 : Option Addr) (l1 l2 k1 k2 : Nat) (x1 x2 : Int) (w : World) (hb : base ≤ w.heap.size) (hx : NumC 1074 w base (numV u) nx A1 l1 k1 x1) (hy : NumC 1074 w base (numV v) ny A2 l2 k2 x2) :
    Calls Tryz.prog 79 #[.int .i64 d, .agg #[.bool nx, .slice A1 l1 k1, .int .i64 x1], .agg #[.bool ny, .slice A2 l2 k2, .int .i64 x2]] w fun r w' => r = optRet (divS d u v) ∧ Below w.heap.size w w' := by
  have eu : numV u = fv u := by unfold numV; rw [fu, if_pos rfl]
  have ev : numV v = fv v := by unfold numV; rw [fv', if_pos rfl]
  have gu := fv_zero_iff hu fu
  have gv := fv_zero_iff hv fv'
  by_cases hd : 0 ≤ d ∧ d ≤ 2
  · have hp : pairB d u v = true := by unfold pairB; rw [fu, fv', decide_eq_true hd]; rfl
    by_cases hv0 : uabs v = 0
    · have hz : numV v = 0 := by rw [ev, gv, hv0, rv_zero]; cases fneg v <;> rfl
      have hl : l2 = 0 := hy.len0.2 hz
      subst hl
      rw [div_false2 hv0]
      exact over_nil d hd nx ny A1 A2 l1 k1 k2 x1 x2 w
    · have hvn : numV v ≠ 0 := by
        rw [ev, gv]
        have := rv_pos hv0
        intro h
        have h2 := congrArg Int.natAbs h
        rw [sg_abs] at h2
        simp at h2
        omega
      by_cases hu0 : uabs u = 0
      · have hz : numV u = 0 := by rw [eu, gu, hu0, rv_zero]; cases fneg u <;> rfl
        have hl : l1 = 0 := hx.len0.2 hz
        subst hl
        rw [div_true hp hv0, if_pos hu0]
        exact over_nought d hd nx ny A1 A2 l2 k1 k2 x1 x2 w (fun h => hvn (hy.len0.1 h))
      · have hun : numV u ≠ 0 := by
          rw [eu, gu]
          have := rv_pos hu0
          intro h
          have h2 := congrArg Int.natAbs h
          rw [sg_abs] at h2
          simp at h2
          omega
        have h := over_good d hd (numV u) (numV v) nx ny A1 A2 l1 l2 k1 k2 x1 x2 w base hb hx hy hun hvn (numV_bd hu) (numV_bd hv)
        have nx' : nx = fneg u := by rw [hx.sign hun, eu, gu]; exact sgR_lt (rv_pos hu0)
        have ny' : ny = fneg v := by rw [hy.sign hvn, ev, gv]; exact sgR_lt (rv_pos hv0)
        have au : (numV u).natAbs = rv (uabs u) := by rw [eu, gu, sg_abs]
        have av : (numV v).natAbs = rv (uabs v) := by rw [ev, gv, sg_abs]
        rw [au, av, nx', ny'] at h
        rw [div_true hp hv0, if_neg hu0, qS]
        rw [← nx', ← ny'] at h ⊢
        exact h
  · have hp : pairB d u v = false := by unfold pairB; rw [decide_eq_false hd, Bool.and_false]
    rw [div_false1 hp]
    exact over_out d (by omega) nx ny A1 A2 l1 l2 k1 k2 x1 x2 w
set_option maxHeartbeats 1000000 in
set_option maxRecDepth 100000 in
theorem div2_calls (d : Int) (u v : Nat) (hu : u < 18446744073709551616) (hv : v < 18446744073709551616) (w : World) :
    Calls Tryz.prog 45 #[.int .i64 d, .int .u64 u, .int .u64 v] w fun r w' => r = optRet (divS d u v) ∧ Below w.heap.size w w' := by
  have HT := Lib.hid (two_calls u v hu hv w)
  rcases hf : (fin u && fin v) with _ | _
  · have hp : pairB d u v = false := by unfold pairB; rw [hf]; rfl
    rw [hf] at HT
    rw [div_false1 hp]
    clear hu hv hf hp
    go_enter Tryz.func45, Tryz.ntmps45
    go_wp2_with fail
    refine HT.out.mono ?_
    rintro e w1 ⟨n1, n2, A1, A2, l1, l2, c1, c2, x1, x2, rfl, hX, hY, hW⟩
    have H1 := Lib.hid (below_next hW (below_new (below_new (Below.refl w1.heap.size w1) (.cells #[.bool n1, .slice A1 l1 c1, .int .i64 x1] 25)) (.cells #[.bool n2, .slice A2 l2 c2, .int .i64 x2] 25)))
    clear hX hY hW HT
    go_wp2
    go_ret2
    exact ⟨rfl, by first | exact H1.out | exact Below.drew H1.out⟩
  · have f1 : fin u = true := by simp at hf; exact hf.1
    have f2 : fin v = true := by simp at hf; exact hf.2
    rw [hf] at HT
    have HO := Lib.hid (fun (W : World) base n1 n2 A1 A2 l1 l2 c1 c2 x1 x2 (hb : base ≤ W.heap.size) (hx : NumC 1074 W base (numV u) n1 A1 l1 c1 x1) (hy : NumC 1074 W base (numV v) n2 A2 l2 c2 x2) => over_calls d u v base hu hv f1 f2 n1 n2 A1 A2 l1 l2 c1 c2 x1 x2 W hb hx hy)
    obtain ⟨o, ho⟩ : ∃ o, divS d u v = o := ⟨_, rfl⟩
    rw [ho] at HO ⊢
    clear hu hv hf f1 f2 ho
    go_enter Tryz.func45, Tryz.ntmps45
    go_wp2_with fail
    refine HT.out.mono ?_
    rintro e w1 ⟨n1, n2, A1, A2, l1, l2, c1, c2, x1, x2, rfl, hX, hY, hW⟩
    have hB := below_new (below_new (Below.refl w1.heap.size w1) (.cells #[.bool n1, .slice A1 l1 c1, .int .i64 x1] 25)) (.cells #[.bool n2, .slice A2 l2 c2, .int .i64 x2] 25)
    have H1 := Lib.hid (And.intro (hX.below hB) (And.intro (hY.below hB) (below_next hW hB)))
    clear hX hY hW HT hB
    go_wp2_with fail
    refine (HO.out _ w.heap.size n1 n2 A1 A2 l1 l2 c1 c2 x1 x2 H1.out.2.2.size H1.out.1 H1.out.2.1).mono ?_
    rintro e w2 ⟨rfl, hW⟩
    have H2 := Lib.hid (below_next H1.out.2.2 hW)
    clear hW
    unfold optRet
    go_wp2
    go_ret2
    exact ⟨rfl, H2.out⟩
set_option maxHeartbeats 1000000 in
set_option maxRecDepth 100000 in
theorem one4_calls (d : Int) (u v : Nat) (hu : u < 18446744073709551616) (hv : v < 18446744073709551616) (w : World) :
    Calls Tryz.prog 15 #[.int .i64 4, .int .i64 d, .float .f64 u, .float .f64 v, .int .i64 0] w fun e w' => e = .returned (.bool true) ∧ Below w.heap.size w w' := by
  have HB1 := Lib.hid (fun W => apibits_calls u W)
  have HB2 := Lib.hid (fun W => apibits_calls v W)
  have HN := Lib.hid (fun W => rdiv_calls d u v hu hv W)
  have HR := Lib.hid (fun W => div2_calls d u v hu hv W)
  obtain ⟨o, ho⟩ : ∃ o, divS d u v = o := ⟨_, rfl⟩
  rw [ho] at HN HR
  obtain ⟨a, ha⟩ : ∃ a, o.getD 0 = a := ⟨_, rfl⟩
  obtain ⟨b, hb⟩ : ∃ a, o.isSome = a := ⟨_, rfl⟩
  unfold fRet2 at HN
  unfold optRet at HR
  rw [ha, hb] at HN HR
  have HS := Lib.hid (fun W => same_calls a b W)
  clear ho ha hb hu hv
  go_enter Tryz.func15, Tryz.ntmps15
  go_wp2_with fail
  refine (HB1.out _).mono ?_
  rintro e w' ⟨rfl, rfl⟩
  go_wp2_with fail
  refine (HB2.out _).mono ?_
  rintro e w' ⟨rfl, rfl⟩
  go_wp2_with fail
  refine (HN.out _).mono ?_
  rintro e w0 ⟨rfl, hW⟩
  have H0 := Lib.hid hW
  clear hW
  go_wp2_with fail
  refine (HR.out _).mono ?_
  rintro e w1 ⟨rfl, hW⟩
  have H1 := Lib.hid (below_next H0.out hW)
  clear hW
  go_wp2_with fail
  refine (HS.out _).mono ?_
  rintro e w' ⟨rfl, rfl⟩
  go_wp2
  go_ret
  exact ⟨rfl, H1.out⟩
end Go.Proofs.YtfgdmiigmcnmpaaGreatFmt

namespace Go.Proofs.YtfgdmiigmcnmpaaGreatFmt
open Go.RowKit
attribute [local go_sem ↓] Go.wp_at_zero Go.wp_at_succ

/-! ### ref2.Add, Sub, Mul -/
theorem rndD_ask {c d : Int} {u v : Nat} (f1 : fin u = true) (f2 : fin v = true) : rndD d 2148 (exS c u v) = askS c d u v := by
  unfold rndD
  by_cases hd : 0 ≤ d ∧ d ≤ 2
  · rw [if_pos hd, ask_true (by unfold pairB; rw [f1, f2, decide_eq_true hd]; rfl)]
  · rw [if_neg hd, ask_false (by unfold pairB; rw [decide_eq_false hd, Bool.and_false])]
theorem ex_num {u v : Nat} (f1 : fin u = true) (f2 : fin v = true) : numV u = fv u ∧ numV v = fv v := by
  unfold numV; rw [f1, f2, if_pos rfl, if_pos rfl]; exact ⟨rfl, rfl⟩
set_option exponentiation.threshold 6000 in
set_option maxHeartbeats 1000000 in
set_option maxRecDepth 100000 in
theorem add2_calls (d : Int) (u v : Nat) (hu : u < 18446744073709551616) (hv : v < 18446744073709551616) (w : World) :
    Calls Tryz.prog 41 #[.int .i64 d, .int .u64 u, .int .u64 v] w fun r w' => r = optRet (askS 1 d u v) ∧ Below w.heap.size w w' := by
  have HT := Lib.hid (two_calls u v hu hv w)
  rcases hf : (fin u && fin v) with _ | _
  · have hp : pairB d u v = false := by unfold pairB; rw [hf]; rfl
    rw [hf] at HT
    rw [ask_false hp]
    clear hu hv hf hp
    go_enter Tryz.func41, Tryz.ntmps41
    go_wp2_with fail
    refine HT.out.mono ?_
    rintro e w1 ⟨n1, n2, A1, A2, l1, l2, c1, c2, x1, x2, rfl, hX, hY, hW⟩
    have H1 := Lib.hid (below_next hW (below_new (below_new (Below.refl w1.heap.size w1) (.cells #[.bool n1, .slice A1 l1 c1, .int .i64 x1] 25)) (.cells #[.bool n2, .slice A2 l2 c2, .int .i64 x2] 25)))
    clear hX hY hW HT
    go_wp2
    go_ret2
    exact ⟨rfl, by first | exact H1.out | exact Below.drew H1.out⟩
  · have f1 : fin u = true := by simp at hf; exact hf.1
    have f2 : fin v = true := by simp at hf; exact hf.2
    rw [hf] at HT
    obtain ⟨e1, e2⟩ := ex_num f1 f2
    have HXB := Lib.hid (exV_bd 1 hu hv (by decide))
    rw [hf, if_pos rfl] at HXB
    have HE := Lib.hid (rndD_ask (c := 1) (d := d) f1 f2)
    have HV : Hid ((numV u + numV v) * ((2 ^ 1074 : Nat) : Int) = exS 1 u v) := by rw [Hid, e1, e2]; exact (exS_1 u v).symm
    have HBU := Lib.hid (And.intro (numV_bd hu) (numV_bd hv))
    obtain ⟨o, ho⟩ : ∃ o, askS 1 d u v = o := ⟨_, rfl⟩
    obtain ⟨X, hX0⟩ : ∃ X, exS 1 u v = X := ⟨_, rfl⟩
    rw [ho, hX0] at HE
    rw [hX0] at HXB HV
    rw [ho]
    clear hu hv hf f1 f2 e1 e2 ho hX0
    go_enter Tryz.func41, Tryz.ntmps41
    go_wp2_with fail
    refine HT.out.mono ?_
    rintro e w1 ⟨n1, n2, A1, A2, l1, l2, c1, c2, x1, x2, rfl, hX, hY, hW⟩
    have hB := below_new (below_new (Below.refl w1.heap.size w1) (.cells #[.bool n1, .slice A1 l1 c1, .int .i64 x1] 25)) (.cells #[.bool n2, .slice A2 l2 c2, .int .i64 x2] 25)
    have H1 := Lib.hid (And.intro (hX.below hB) (And.intro (hY.below hB) (below_next hW hB)))
    clear hX hY hW HT hB
    go_wp2_with fail
    refine (plus_c2 1074 w.heap.size 2098 (numV u) (numV v) n1 n2 A1 A2 l1 l2 c1 c2 x1 x2 _ H1.out.2.2.size H1.out.1 H1.out.2.1 HBU.out.1 HBU.out.2 (by decide) (by decide)).mono ?_
    rintro e w2 ⟨n5, A5, l5, c5, x5, rfl, hR, hW⟩
    have hR2 : NumC 2148 w2 w.heap.size X n5 A5 l5 c5 x5 := by have h := hR.raise 1074; rw [HV.out] at h; exact h
    have H2 := Lib.hid (And.intro hR2 (below_next H1.out.2.2 hW))
    clear hR hR2 hW
    go_wp2_with fail
    refine (round_c d 2148 w.heap.size 5000 X n5 A5 l5 c5 x5 w2 H2.out.2.size H2.out.1 HXB.out (by decide) (by decide) (by decide)).mono ?_
    rintro e w3 ⟨rfl, hW⟩
    have H3 := Lib.hid (below_next H2.out.2 hW)
    clear hW
    rw [HE.out]
    unfold optRet
    go_wp2
    go_ret2
    exact ⟨rfl, H3.out⟩
set_option exponentiation.threshold 6000 in
set_option maxHeartbeats 1000000 in
set_option maxRecDepth 100000 in
theorem sub2_calls (d : Int) (u v : Nat) (hu : u < 18446744073709551616) (hv : v < 18446744073709551616) (w : World) :
    Calls Tryz.prog 43 #[.int .i64 d, .int .u64 u, .int .u64 v] w fun r w' => r = optRet (askS 2 d u v) ∧ Below w.heap.size w w' := by
  have HT := Lib.hid (two_calls u v hu hv w)
  rcases hf : (fin u && fin v) with _ | _
  · have hp : pairB d u v = false := by unfold pairB; rw [hf]; rfl
    rw [hf] at HT
    rw [ask_false hp]
    clear hu hv hf hp
    go_enter Tryz.func43, Tryz.ntmps43
    go_wp2_with fail
    refine HT.out.mono ?_
    rintro e w1 ⟨n1, n2, A1, A2, l1, l2, c1, c2, x1, x2, rfl, hX, hY, hW⟩
    have H1 := Lib.hid (below_next hW (below_new (below_new (Below.refl w1.heap.size w1) (.cells #[.bool n1, .slice A1 l1 c1, .int .i64 x1] 25)) (.cells #[.bool n2, .slice A2 l2 c2, .int .i64 x2] 25)))
    clear hX hY hW HT
    go_wp2
    go_ret2
    exact ⟨rfl, by first | exact H1.out | exact Below.drew H1.out⟩
  · have f1 : fin u = true := by simp at hf; exact hf.1
    have f2 : fin v = true := by simp at hf; exact hf.2
    rw [hf] at HT
    obtain ⟨e1, e2⟩ := ex_num f1 f2
    have HXB := Lib.hid (exV_bd 2 hu hv (by decide))
    rw [hf, if_pos rfl] at HXB
    have HE := Lib.hid (rndD_ask (c := 2) (d := d) f1 f2)
    have HV : Hid ((numV u - numV v) * ((2 ^ 1074 : Nat) : Int) = exS 2 u v) := by rw [Hid, e1, e2]; exact (exS_2 u v).symm
    have HBU := Lib.hid (And.intro (numV_bd hu) (numV_bd hv))
    obtain ⟨o, ho⟩ : ∃ o, askS 2 d u v = o := ⟨_, rfl⟩
    obtain ⟨X, hX0⟩ : ∃ X, exS 2 u v = X := ⟨_, rfl⟩
    rw [ho, hX0] at HE
    rw [hX0] at HXB HV
    rw [ho]
    clear hu hv hf f1 f2 e1 e2 ho hX0
    go_enter Tryz.func43, Tryz.ntmps43
    go_wp2_with fail
    refine HT.out.mono ?_
    rintro e w1 ⟨n1, n2, A1, A2, l1, l2, c1, c2, x1, x2, rfl, hX, hY, hW⟩
    have hB := below_new (below_new (Below.refl w1.heap.size w1) (.cells #[.bool n1, .slice A1 l1 c1, .int .i64 x1] 25)) (.cells #[.bool n2, .slice A2 l2 c2, .int .i64 x2] 25)
    have H1 := Lib.hid (And.intro (hX.below hB) (And.intro (hY.below hB) (below_next hW hB)))
    clear hX hY hW HT hB
    go_wp2_with fail
    refine (minus_c3 1074 w.heap.size 2098 (numV u) (numV v) n1 n2 A1 A2 l1 l2 c1 c2 x1 x2 _ H1.out.2.2.size H1.out.1 H1.out.2.1 HBU.out.1 HBU.out.2 (by decide) (by decide)).mono ?_
    rintro e w2 ⟨n5, A5, l5, c5, x5, rfl, hR, hW⟩
    have hR2 : NumC 2148 w2 w.heap.size X n5 A5 l5 c5 x5 := by have h := hR.raise 1074; rw [HV.out] at h; exact h
    have H2 := Lib.hid (And.intro hR2 (below_next H1.out.2.2 hW))
    clear hR hR2 hW
    go_wp2_with fail
    refine (round_c d 2148 w.heap.size 5000 X n5 A5 l5 c5 x5 w2 H2.out.2.size H2.out.1 HXB.out (by decide) (by decide) (by decide)).mono ?_
    rintro e w3 ⟨rfl, hW⟩
    have H3 := Lib.hid (below_next H2.out.2 hW)
    clear hW
    rw [HE.out]
    unfold optRet
    go_wp2
    go_ret2
    exact ⟨rfl, H3.out⟩
set_option exponentiation.threshold 6000 in
set_option maxHeartbeats 1000000 in
set_option maxRecDepth 100000 in
theorem mul2_calls (d : Int) (u v : Nat) (hu : u < 18446744073709551616) (hv : v < 18446744073709551616) (w : World) :
    Calls Tryz.prog 44 #[.int .i64 d, .int .u64 u, .int .u64 v] w fun r w' => r = optRet (askS 3 d u v) ∧ Below w.heap.size w w' := by
  have HT := Lib.hid (two_calls u v hu hv w)
  rcases hf : (fin u && fin v) with _ | _
  · have hp : pairB d u v = false := by unfold pairB; rw [hf]; rfl
    rw [hf] at HT
    rw [ask_false hp]
    clear hu hv hf hp
    go_enter Tryz.func44, Tryz.ntmps44
    go_wp2_with fail
    refine HT.out.mono ?_
    rintro e w1 ⟨n1, n2, A1, A2, l1, l2, c1, c2, x1, x2, rfl, hX, hY, hW⟩
    have H1 := Lib.hid (below_next hW (below_new (below_new (Below.refl w1.heap.size w1) (.cells #[.bool n1, .slice A1 l1 c1, .int .i64 x1] 25)) (.cells #[.bool n2, .slice A2 l2 c2, .int .i64 x2] 25)))
    clear hX hY hW HT
    go_wp2
    go_ret2
    exact ⟨rfl, by first | exact H1.out | exact Below.drew H1.out⟩
  · have f1 : fin u = true := by simp at hf; exact hf.1
    have f2 : fin v = true := by simp at hf; exact hf.2
    rw [hf] at HT
    obtain ⟨e1, e2⟩ := ex_num f1 f2
    have HXB := Lib.hid (exV_bd 3 hu hv (by decide))
    rw [hf, if_pos rfl] at HXB
    have HE := Lib.hid (rndD_ask (c := 3) (d := d) f1 f2)
    have HV : Hid (numV u * numV v = exS 3 u v) := by rw [Hid, e1, e2]; exact (exS_3 u v).symm
    have HBU := Lib.hid (And.intro (numV_bd hu) (numV_bd hv))
    obtain ⟨o, ho⟩ : ∃ o, askS 3 d u v = o := ⟨_, rfl⟩
    obtain ⟨X, hX0⟩ : ∃ X, exS 3 u v = X := ⟨_, rfl⟩
    rw [ho, hX0] at HE
    rw [hX0] at HXB HV
    rw [ho]
    clear hu hv hf f1 f2 e1 e2 ho hX0
    go_enter Tryz.func44, Tryz.ntmps44
    go_wp2_with fail
    refine HT.out.mono ?_
    rintro e w1 ⟨n1, n2, A1, A2, l1, l2, c1, c2, x1, x2, rfl, hX, hY, hW⟩
    have hB := below_new (below_new (Below.refl w1.heap.size w1) (.cells #[.bool n1, .slice A1 l1 c1, .int .i64 x1] 25)) (.cells #[.bool n2, .slice A2 l2 c2, .int .i64 x2] 25)
    have H1 := Lib.hid (And.intro (hX.below hB) (And.intro (hY.below hB) (below_next hW hB)))
    clear hX hY hW HT hB
    go_wp2_with fail
    refine (times_c2 1074 1074 w.heap.size 2098 (numV u) (numV v) n1 n2 A1 A2 l1 l2 c1 c2 x1 x2 _ H1.out.2.2.size H1.out.1 H1.out.2.1 HBU.out.1 HBU.out.2 (by decide) (by decide) (by decide)).mono ?_
    rintro e w2 ⟨n5, A5, l5, c5, x5, rfl, hR, hW⟩
    have hR2 : NumC 2148 w2 w.heap.size X n5 A5 l5 c5 x5 := by have h := hR; rw [HV.out] at h; exact h
    have H2 := Lib.hid (And.intro hR2 (below_next H1.out.2.2 hW))
    clear hR hR2 hW
    go_wp2_with fail
    refine (round_c d 2148 w.heap.size 5000 X n5 A5 l5 c5 x5 w2 H2.out.2.size H2.out.1 HXB.out (by decide) (by decide) (by decide)).mono ?_
    rintro e w3 ⟨rfl, hW⟩
    have H3 := Lib.hid (below_next H2.out.2 hW)
    clear hW
    rw [HE.out]
    unfold optRet
    go_wp2
    go_ret2
    exact ⟨rfl, H3.out⟩
end Go.Proofs.YtfgdmiigmcnmpaaGreatFmt

namespace Go.Proofs.YtfgdmiigmcnmpaaGreatFmt
open Go.RowKit
attribute [local go_sem ↓] Go.wp_at_zero Go.wp_at_succ

/-! ### law2.one of Add, Sub, Mul -/
set_option maxHeartbeats 1000000 in
set_option maxRecDepth 100000 in
theorem one1_calls (d : Int) (u v : Nat) (n : Int) (hu : u < 18446744073709551616) (hv : v < 18446744073709551616) (w : World) :
    Calls Tryz.prog 15 #[.int .i64 1, .int .i64 d, .float .f64 u, .float .f64 v, .int .i64 n] w fun e w' => e = .returned (.bool true) ∧ Below w.heap.size w w' := by
  have HB1 := Lib.hid (fun W => apibits_calls u W)
  have HB2 := Lib.hid (fun W => apibits_calls v W)
  have HN := Lib.hid (fun W => radd_calls d u v hu hv W)
  have HR := Lib.hid (fun W => add2_calls d u v hu hv W)
  obtain ⟨o, ho⟩ : ∃ o, askS 1 d u v = o := ⟨_, rfl⟩
  rw [ho] at HN HR
  obtain ⟨a, ha⟩ : ∃ a, o.getD 0 = a := ⟨_, rfl⟩
  obtain ⟨b, hb⟩ : ∃ a, o.isSome = a := ⟨_, rfl⟩
  unfold fRet2 at HN
  unfold optRet at HR
  rw [ha, hb] at HN HR
  have HS := Lib.hid (fun W => same_calls a b W)
  clear ho ha hb hu hv
  go_enter Tryz.func15, Tryz.ntmps15
  go_wp2_with fail
  refine (HB1.out _).mono ?_
  rintro e w' ⟨rfl, rfl⟩
  go_wp2_with fail
  refine (HB2.out _).mono ?_
  rintro e w' ⟨rfl, rfl⟩
  go_wp2_with fail
  refine (HN.out _).mono ?_
  rintro e w0 ⟨rfl, hW⟩
  have H0 := Lib.hid hW
  clear hW
  go_wp2_with fail
  refine (HR.out _).mono ?_
  rintro e w1 ⟨rfl, hW⟩
  have H1 := Lib.hid (below_next H0.out hW)
  clear hW
  go_wp2_with fail
  refine (HS.out _).mono ?_
  rintro e w' ⟨rfl, rfl⟩
  go_wp2
  go_ret
  exact ⟨rfl, H1.out⟩
set_option maxHeartbeats 1000000 in
set_option maxRecDepth 100000 in
theorem one2_calls (d : Int) (u v : Nat) (n : Int) (hu : u < 18446744073709551616) (hv : v < 18446744073709551616) (w : World) :
    Calls Tryz.prog 15 #[.int .i64 2, .int .i64 d, .float .f64 u, .float .f64 v, .int .i64 n] w fun e w' => e = .returned (.bool true) ∧ Below w.heap.size w w' := by
  have HB1 := Lib.hid (fun W => apibits_calls u W)
  have HB2 := Lib.hid (fun W => apibits_calls v W)
  have HN := Lib.hid (fun W => rsub_calls d u v hu hv W)
  have HR := Lib.hid (fun W => sub2_calls d u v hu hv W)
  obtain ⟨o, ho⟩ : ∃ o, askS 2 d u v = o := ⟨_, rfl⟩
  rw [ho] at HN HR
  obtain ⟨a, ha⟩ : ∃ a, o.getD 0 = a := ⟨_, rfl⟩
  obtain ⟨b, hb⟩ : ∃ a, o.isSome = a := ⟨_, rfl⟩
  unfold fRet2 at HN
  unfold optRet at HR
  rw [ha, hb] at HN HR
  have HS := Lib.hid (fun W => same_calls a b W)
  clear ho ha hb hu hv
  go_enter Tryz.func15, Tryz.ntmps15
  go_wp2_with fail
  refine (HB1.out _).mono ?_
  rintro e w' ⟨rfl, rfl⟩
  go_wp2_with fail
  refine (HB2.out _).mono ?_
  rintro e w' ⟨rfl, rfl⟩
  go_wp2_with fail
  refine (HN.out _).mono ?_
  rintro e w0 ⟨rfl, hW⟩
  have H0 := Lib.hid hW
  clear hW
  go_wp2_with fail
  refine (HR.out _).mono ?_
  rintro e w1 ⟨rfl, hW⟩
  have H1 := Lib.hid (below_next H0.out hW)
  clear hW
  go_wp2_with fail
  refine (HS.out _).mono ?_
  rintro e w' ⟨rfl, rfl⟩
  go_wp2
  go_ret
  exact ⟨rfl, H1.out⟩
set_option maxHeartbeats 1000000 in
set_option maxRecDepth 100000 in
theorem one3_calls (d : Int) (u v : Nat) (n : Int) (hu : u < 18446744073709551616) (hv : v < 18446744073709551616) (w : World) :
    Calls Tryz.prog 15 #[.int .i64 3, .int .i64 d, .float .f64 u, .float .f64 v, .int .i64 n] w fun e w' => e = .returned (.bool true) ∧ Below w.heap.size w w' := by
  have HB1 := Lib.hid (fun W => apibits_calls u W)
  have HB2 := Lib.hid (fun W => apibits_calls v W)
  have HN := Lib.hid (fun W => rmul_calls d u v hu hv W)
  have HR := Lib.hid (fun W => mul2_calls d u v hu hv W)
  obtain ⟨o, ho⟩ : ∃ o, askS 3 d u v = o := ⟨_, rfl⟩
  rw [ho] at HN HR
  obtain ⟨a, ha⟩ : ∃ a, o.getD 0 = a := ⟨_, rfl⟩
  obtain ⟨b, hb⟩ : ∃ a, o.isSome = a := ⟨_, rfl⟩
  unfold fRet2 at HN
  unfold optRet at HR
  rw [ha, hb] at HN HR
  have HS := Lib.hid (fun W => same_calls a b W)
  clear ho ha hb hu hv
  go_enter Tryz.func15, Tryz.ntmps15
  go_wp2_with fail
  refine (HB1.out _).mono ?_
  rintro e w' ⟨rfl, rfl⟩
  go_wp2_with fail
  refine (HB2.out _).mono ?_
  rintro e w' ⟨rfl, rfl⟩
  go_wp2_with fail
  refine (HN.out _).mono ?_
  rintro e w0 ⟨rfl, hW⟩
  have H0 := Lib.hid hW
  clear hW
  go_wp2_with fail
  refine (HR.out _).mono ?_
  rintro e w1 ⟨rfl, hW⟩
  have H1 := Lib.hid (below_next H0.out hW)
  clear hW
  go_wp2_with fail
  refine (HS.out _).mono ?_
  rintro e w' ⟨rfl, rfl⟩
  go_wp2
  go_ret
  exact ⟨rfl, H1.out⟩
end Go.Proofs.YtfgdmiigmcnmpaaGreatFmt
