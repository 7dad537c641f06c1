import Derived.Test.YtogjodnmegafdaaGreatFmtJ41
import Derived.Test.YtogjodnmegafdaaGreatFmtJ45
set_option linter.unusedVariables false
set_option linter.unusedSimpArgs false
namespace Go.Proofs.YtogjodnmegafdaaGreatFmt
open Go.RowKit
attribute [local go_sem ↓] Go.wp_at_zero Go.wp_at_succ

/-! ### ref2.two -/
theorem two_new (w : World) {W : World} (hW : (w.alloc (.cells #[.bool false, .slice none 0 0, .int .i64 0] 25)).alloc (.cells #[.bool false, .slice none 0 0, .int .i64 0] 25) = W) :
    Blk W w.heap.size 25 [.bool false, .slice none 0 0, .int .i64 0] ∧ Blk W (w.heap.size + 1) 25 [.bool false, .slice none 0 0, .int .i64 0] ∧ Below w.heap.size w W := by
  have h2 := num_new (w.alloc (.cells #[.bool false, .slice none 0 0, .int .i64 0] 25))
  subst hW
  refine ⟨(num_new w).alloc _, ?_, below_new (below_new (Below.refl _ _) _) _⟩
  simpa using h2
theorem two_store {w0 w : World} {b : Nat} {X Y : Int} {n1 n2 : Bool} {A1 A2 : Option Addr} {l1 l2 c1 c2 : Nat} {x1 x2 : Int} (h4 : Blk w b 25 [.bool false, .slice none 0 0, .int .i64 0]) (h5 : Blk w (b + 1) 25 [.bool false, .slice none 0 0, .int .i64 0]) (hX : NumC 1074 w b X n1 A1 l1 c1 x1) (hY : NumC 1074 w b Y n2 A2 l2 c2 x2) (hW : Below b w0 w) {W : World}
    (e : (((((w.setCell ⟨b, 0, none⟩ (.bool n1)).setCell ⟨b, 1, none⟩ (.slice A1 l1 c1)).setCell ⟨b, 2, none⟩ (.int .i64 x1)).setCell ⟨b + 1, 0, none⟩ (.bool n2)).setCell ⟨b + 1, 1, none⟩ (.slice A2 l2 c2)).setCell ⟨b + 1, 2, none⟩ (.int .i64 x2) = W) :
    Blk W b 25 [.bool n1, .slice A1 l1 c1, .int .i64 x1] ∧ Blk W (b + 1) 25 [.bool n2, .slice A2 l2 c2, .int .i64 x2] ∧ NumC 1074 W b X n1 A1 l1 c1 x1 ∧ NumC 1074 W b Y n2 A2 l2 c2 x2 ∧ Below b w0 W := by
  obtain ⟨w1, e1⟩ : ∃ W, ((w.setCell ⟨b, 0, none⟩ (.bool n1)).setCell ⟨b, 1, none⟩ (.slice A1 l1 c1)).setCell ⟨b, 2, none⟩ (.int .i64 x1) = W := ⟨_, rfl⟩
  rw [e1] at e
  obtain ⟨p1, p2, p3⟩ := num_store h4 hX (Nat.le_refl _) hW e1
  have hne : b + 1 ≠ b := by omega
  have h5' : Blk w1 (b + 1) 25 [.bool false, .slice none 0 0, .int .i64 0] := by
    rw [← e1]; exact ((h5.far (p := ⟨b, 0, none⟩) hne _).far (p := ⟨b, 1, none⟩) hne _).far (p := ⟨b, 2, none⟩) hne _
  have hY' : NumC 1074 w1 b Y n2 A2 l2 c2 x2 := by
    rw [← e1]; exact ((hY.set h4 (Nat.le_refl _) 0 _).set (h4.set 0 _) (Nat.le_refl _) 1 _).set ((h4.set 0 _).set 1 _) (Nat.le_refl _) 2 _
  subst e
  have hb1 : b ≤ b + 1 := by omega
  refine ⟨((p1.far (p := ⟨b + 1, 0, none⟩) (Ne.symm hne) _).far (p := ⟨b + 1, 1, none⟩) (Ne.symm hne) _).far (p := ⟨b + 1, 2, none⟩) (Ne.symm hne) _, ((h5'.set 0 _).set 1 _).set 2 _, ((p2.set h5' hb1 0 _).set (h5'.set 0 _) hb1 1 _).set ((h5'.set 0 _).set 1 _) hb1 2 _, ((hY'.set h5' hb1 0 _).set (h5'.set 0 _) hb1 1 _).set ((h5'.set 0 _).set 1 _) hb1 2 _, ?_⟩
  exact ((p3.setCell (p := ⟨b + 1, 0, none⟩) hb1 _).setCell (p := ⟨b + 1, 1, none⟩) hb1 _).setCell (p := ⟨b + 1, 2, none⟩) hb1 _
set_option maxHeartbeats 2000000 in
set_option maxRecDepth 100000 in
theorem two_calls (u v : Nat) (hu : u < 18446744073709551616) (hv : v < 18446744073709551616) (w : World) :
    Calls Tryz.prog 83 #[.int .u64 u, .int .u64 v] w fun e w' => ∃ (n1 n2 : Bool) (A1 A2 : Option Addr) (l1 l2 c1 c2 : Nat) (x1 x2 : Int), e = .returned (.tuple #[.agg #[.bool n1, .slice A1 l1 c1, .int .i64 x1], .agg #[.bool n2, .slice A2 l2 c2, .int .i64 x2], .bool (fin u && fin v)]) ∧ NumC 1074 w' w.heap.size (numV u) n1 A1 l1 c1 x1 ∧ NumC 1074 w' w.heap.size (numV v) n2 A2 l2 c2 x2 ∧ Below w.heap.size w w' := by
  have HU := Lib.hid (fun W => of_calls u w.heap.size W hu)
  have HV := Lib.hid (fun W => of_calls v w.heap.size W hv)
  obtain ⟨f1, h1⟩ : ∃ f, fin u = f := ⟨_, rfl⟩
  obtain ⟨f2, h2⟩ : ∃ f, fin v = f := ⟨_, rfl⟩
  rw [h1] at HU
  rw [h2] at HV
  rw [h1, h2]
  clear hu hv h1 h2
  go_enter Tryz.func83, Tryz.ntmps83
  go_wp2_with fail
  have H0 := Lib.hid (two_new w rfl)
  refine (HU.out _).mono ?_
  rintro e w1 ⟨n1, A1, l1, c1, x1, rfl, hR, hW⟩
  have hB := below_new (Below.refl w1.heap.size w1) (.cells #[.bool n1, .slice A1 l1 c1, .int .i64 x1] 25)
  have hb1 := below_next hW hB
  have hlt1 : w.heap.size + 1 < w1.heap.size := (H0.out.2.1.below' hW).lt
  have H1 := Lib.hid (And.intro (H0.out.1.below' hb1) (And.intro (H0.out.2.1.below' hb1) (And.intro (num_blk w1 n1 A1 l1 c1 x1) (And.intro (hR.below hB) (below_next H0.out.2.2 hb1)))))
  clear hR hW hB hb1 H0
  go_wp2_with fail
  refine (HV.out _).mono ?_
  rintro e w2 ⟨n2, A2, l2, c2, x2, rfl, hR, hW⟩
  have hB := below_new (Below.refl w2.heap.size w2) (.cells #[.bool n2, .slice A2 l2 c2, .int .i64 x2] 25)
  have hb1 := below_next hW hB
  have hlt2 : w1.heap.size < w2.heap.size := (H1.out.2.2.1.below' hW).lt
  have H2 := Lib.hid (And.intro (H1.out.1.below' hb1) (And.intro (H1.out.2.1.below' hb1) (And.intro (H1.out.2.2.1.below' hb1) (And.intro (num_blk w2 n2 A2 l2 c2 x2) (And.intro (H1.out.2.2.2.1.below hb1) (And.intro (hR.below hB) (below_next H1.out.2.2.2.2 hb1)))))))
  clear hR hW hB hb1 H1
  go_wp2
  obtain ⟨w3, hw3⟩ : ∃ W, w2.alloc (.cells #[.bool n2, .slice A2 l2 c2, .int .i64 x2] 25) = W := ⟨_, rfl⟩
  rw [hw3] at H2 ⊢
  clear hw3
  obtain ⟨⟨a0, a1, a2⟩, _⟩ := three H2.out.2.2.1
  obtain ⟨⟨b0, b1, b2⟩, _⟩ := three H2.out.2.2.2.1
  obtain ⟨⟨r0, r1, r2⟩, t0, t1, t2⟩ := three H2.out.1
  obtain ⟨⟨s0, s1, s2⟩, v0, v1, v2⟩ := three H2.out.2.1
  have g1 : ¬ w2.heap.size = w.heap.size := by omega
  have g2 : ¬ w2.heap.size = w.heap.size + 1 := by omega
  have g3 : ¬ w1.heap.size = w.heap.size := by omega
  have g4 : ¬ w1.heap.size = w.heap.size + 1 := by omega
  obtain ⟨w9, hw9⟩ : ∃ W, (((((w3.setCell ⟨w.heap.size, 0, none⟩ (.bool n1)).setCell ⟨w.heap.size, 1, none⟩ (.slice A1 l1 c1)).setCell ⟨w.heap.size, 2, none⟩ (.int .i64 x1)).setCell ⟨w.heap.size + 1, 0, none⟩ (.bool n2)).setCell ⟨w.heap.size + 1, 1, none⟩ (.slice A2 l2 c2)).setCell ⟨w.heap.size + 1, 2, none⟩ (.int .i64 x2) = W := ⟨_, rfl⟩
  have HS := Lib.hid (two_store H2.out.1 H2.out.2.1 (H2.out.2.2.2.2.1) (H2.out.2.2.2.2.2.1) H2.out.2.2.2.2.2.2 hw9)
  have HE := Lib.hid hw9
  clear hw9
  cases f1
  all_goals (
    go_region
    all_goals (
      go_wp2
      rw [HE.out]
      obtain ⟨⟨m0, m1, m2⟩, _⟩ := three HS.out.1
      obtain ⟨⟨p0, p1, p2⟩, _⟩ := three HS.out.2.1
      have hd := Below.drew (Below.refl w9.heap.size w9)
      have m0' := m0
      first
        | exact bodyPost_ret (v := .tuple #[.agg #[.bool n1, .slice A1 l1 c1, .int .i64 x1], .agg #[.bool n2, .slice A2 l2 c2, .int .i64 x2], .bool false]) (by simp [results, Tryz.results83, go_sem, m0, m1, m2, p0, p1, p2]) rfl ⟨n1, n2, A1, A2, l1, l2, c1, c2, x1, x2, rfl, HS.out.2.2.1.below hd, HS.out.2.2.2.1.below hd, HS.out.2.2.2.2.drew⟩
        | exact bodyPost_ret (v := .tuple #[.agg #[.bool n1, .slice A1 l1 c1, .int .i64 x1], .agg #[.bool n2, .slice A2 l2 c2, .int .i64 x2], .bool f2]) (by simp [results, Tryz.results83, go_sem, m0, m1, m2, p0, p1, p2]) rfl ⟨n1, n2, A1, A2, l1, l2, c1, c2, x1, x2, rfl, HS.out.2.2.1.below hd, HS.out.2.2.2.1.below hd, HS.out.2.2.2.2.drew⟩))
end Go.Proofs.YtogjodnmegafdaaGreatFmt
