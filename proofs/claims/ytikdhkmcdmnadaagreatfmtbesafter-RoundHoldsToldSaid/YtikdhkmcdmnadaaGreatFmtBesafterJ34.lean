/- Walks and plain laws of this seat's functions, part 34: Q1 Q3. -/
import Derived.Test.YtikdhkmcdmnadaaGreatFmtBesafterJ05
import Derived.Test.YtikdhkmcdmnadaaGreatFmtBesafterJ08
import Derived.Test.YtikdhkmcdmnadaaGreatFmtBesafterJ32
import Derived.Test.YtikdhkmcdmnadaaGreatFmtBesafterJ33
set_option linter.unusedVariables false
set_option linter.unusedSimpArgs false
namespace Go.Proofs.YtikdhkmcdmnadaaGreatFmtBesafter
open Go.RowKit
attribute [local go_sem ↓] Go.wp_at_zero Go.wp_at_succ

/-! ### the law's own: num, asked -/
theorem asked_calls (c d : Int) (u v : Nat) (hu : u < 18446744073709551616) (hv : v < 18446744073709551616) (hc : c = 1 ∨ c = 2 ∨ c = 3) (w : World) :
    Calls Tryz.prog 5 #[.int .i64 c, .int .i64 d, .float .f64 u, .float .f64 v] w fun e w' => e = fRet2 (askS c d u v) ∧ Below w.heap.size w w' := by
  have HA := Lib.hid (fun W => radd_calls d u v hu hv W)
  have HS := Lib.hid (fun W => rsub_calls d u v hu hv W)
  have HM := Lib.hid (fun W => rmul_calls d u v hu hv W)
  clear hu hv
  rcases hc with rfl | rfl | rfl
  · go_enter Tryz.func5, Tryz.ntmps5
    go_wp2_with fail
    refine (HA.out _).mono ?_
    rintro e w' ⟨rfl, hW⟩
    have HW := Lib.hid hW
    clear hW
    unfold fRet2
    go_wp2
    go_ret2
    exact ⟨rfl, HW.out⟩
  · go_enter Tryz.func5, Tryz.ntmps5
    go_wp2_with fail
    refine (HS.out _).mono ?_
    rintro e w' ⟨rfl, hW⟩
    have HW := Lib.hid hW
    clear hW
    unfold fRet2
    go_wp2
    go_ret2
    exact ⟨rfl, HW.out⟩
  · go_enter Tryz.func5, Tryz.ntmps5
    go_wp2_with fail
    refine (HM.out _).mono ?_
    rintro e w' ⟨rfl, hW⟩
    have HW := Lib.hid hW
    clear hW
    unfold fRet2
    go_wp2
    go_ret2
    exact ⟨rfl, HW.out⟩
set_option maxHeartbeats 1000000 in
set_option maxRecDepth 100000 in
theorem lnum_calls (u base : Nat) (w : World) (hu : u < 18446744073709551616) (hbase : base ≤ w.heap.size) :
    Calls Tryz.prog 10 #[.float .f64 u] w fun e w' => ∃ (neg : Bool) (A : Option Addr) (n c : Nat) (x : Int), e = .returned (.tuple #[.agg #[.bool neg, .slice A n c, .int .i64 x], .bool (fin u)]) ∧ NumC 1074 w' base (numV u) neg A n c x ∧ Below w.heap.size w w' := by
  have HB := Lib.hid (fun W => apibits_calls u W)
  have HO := Lib.hid (fun W => of_calls u base W hu)
  have HN := Lib.hid (num_new w)
  have HW := Lib.hid (below_new (Below.refl w.heap.size w) (.cells #[.bool false, .slice none 0 0, .int .i64 0] 25))
  have HBASE := Lib.hid hbase
  clear hu hbase
  go_enter Tryz.func10, Tryz.ntmps10
  go_wp2_with fail
  refine (HB.out _).mono ?_
  rintro e w' ⟨rfl, rfl⟩
  go_wp2_with fail
  refine (HO.out _).mono ?_
  rintro e w2 ⟨neg, A, n, c, x, rfl, hR, hW⟩
  have hb2 := HN.out.below' hW
  have hW2 := HW.out.trans (hW.mono (by exact HW.out.size))
  obtain ⟨⟨c0, c1, c2⟩, f0, f1, f2⟩ := three hb2
  have HF : Hid (NumC 1074 (((w2.setCell ⟨w.heap.size, 0, none⟩ (.bool neg)).setCell ⟨w.heap.size, 1, none⟩ (.slice A n c)).setCell ⟨w.heap.size, 2, none⟩ (.int .i64 x)) base (numV u) neg A n c x ∧ Below w.heap.size w (((w2.setCell ⟨w.heap.size, 0, none⟩ (.bool neg)).setCell ⟨w.heap.size, 1, none⟩ (.slice A n c)).setCell ⟨w.heap.size, 2, none⟩ (.int .i64 x)) ∧ Blk (((w2.setCell ⟨w.heap.size, 0, none⟩ (.bool neg)).setCell ⟨w.heap.size, 1, none⟩ (.slice A n c)).setCell ⟨w.heap.size, 2, none⟩ (.int .i64 x)) w.heap.size 25 [.bool neg, .slice A n c, .int .i64 x]) :=
    ⟨((hR.set hb2 HBASE.out 0 _).set (hb2.set 0 _) HBASE.out 1 _).set ((hb2.set 0 _).set 1 _) HBASE.out 2 _, ((hW2.setCell (p := ⟨w.heap.size, 0, none⟩) (Nat.le_refl _) _).setCell (p := ⟨w.heap.size, 1, none⟩) (Nat.le_refl _) _).setCell (p := ⟨w.heap.size, 2, none⟩) (Nat.le_refl _) _, ((hb2.set 0 _).set 1 _).set 2 _⟩
  clear hR hW hb2 hW2
  go_wp2
  obtain ⟨w3, hw3⟩ : ∃ W, ((w2.setCell ⟨w.heap.size, 0, none⟩ (.bool neg)).setCell ⟨w.heap.size, 1, none⟩ (.slice A n c)).setCell ⟨w.heap.size, 2, none⟩ (.int .i64 x) = W := ⟨_, rfl⟩
  rw [hw3] at HF ⊢
  obtain ⟨⟨k0, k1, k2⟩, _⟩ := three HF.out.2.2
  exact bodyPost_ret (v := .tuple #[.agg #[.bool neg, .slice A n c, .int .i64 x], .bool (fin u)]) (by simp [results, Tryz.results10, go_sem, k0, k1, k2]) rfl ⟨neg, A, n, c, x, rfl, HF.out.1, HF.out.2.1⟩
end Go.Proofs.YtikdhkmcdmnadaaGreatFmtBesafter

namespace Go.Proofs.YtikdhkmcdmnadaaGreatFmtBesafter
open Go.RowKit
attribute [local go_sem ↓] Go.wp_at_zero Go.wp_at_succ

/-! ### exact -/
set_option exponentiation.threshold 3000 in
theorem numV_bd {u : Nat} (hu : u < 18446744073709551616) : (numV u).natAbs < 2 ^ 2098 := by
  unfold numV
  rcases h : fin u with _ | _
  · exact Nat.pow_pos (by decide)
  · exact fv_bd hu h
abbrev aggC (neg : Bool) (A : Option Addr) (n c : Nat) (x : Int) : Value := .agg #[.bool neg, .slice A n c, .int .i64 x]
def OpC (f : Nat) (base : Nat) (X Y Z : Int) : Prop := ∀ (W : World) (n1 n2 : Bool) (A1 A2 : Option Addr) (l1 l2 c1 c2 : Nat) (x1 x2 : Int), base ≤ W.heap.size → NumC 1074 W base X n1 A1 l1 c1 x1 → NumC 1074 W base Y n2 A2 l2 c2 x2 →
  Calls Tryz.prog f #[.agg #[.bool n1, .slice A1 l1 c1, .int .i64 x1], .agg #[.bool n2, .slice A2 l2 c2, .int .i64 x2]] W fun e w' => ∃ (neg : Bool) (A : Option Addr) (n c : Nat) (x : Int), e = .returned (.agg #[.bool neg, .slice A n c, .int .i64 x]) ∧ NumC 2148 w' base Z neg A n c x ∧ Below W.heap.size W w'
theorem opc_plus (u v base : Nat) (hu : u < 18446744073709551616) (hv : v < 18446744073709551616) : OpC 15 base (numV u) (numV v) ((numV u + numV v) * ((2 ^ 1074 : Nat) : Int)) := by
  intro W n1 n2 A1 A2 l1 l2 c1 c2 x1 x2 hb hx hy
  refine (plus_num 1074 base 2098 (numV u) (numV v) _ _ W hb hx hy (numV_bd hu) (numV_bd hv) (by decide) (by decide)).mono ?_
  rintro e w' ⟨cs, rfl, hR, hW⟩
  obtain ⟨neg, A, n, c, x, rfl, hN⟩ := NumC.of hR
  exact ⟨neg, A, n, c, x, rfl, hN.raise 1074, hW⟩
theorem opc_minus (u v base : Nat) (hu : u < 18446744073709551616) (hv : v < 18446744073709551616) : OpC 13 base (numV u) (numV v) ((numV u - numV v) * ((2 ^ 1074 : Nat) : Int)) := by
  intro W n1 n2 A1 A2 l1 l2 c1 c2 x1 x2 hb hx hy
  refine (minus_num 1074 base 2098 (numV u) (numV v) _ _ W hb hx hy (numV_bd hu) (numV_bd hv) (by decide) (by decide)).mono ?_
  rintro e w' ⟨cs, rfl, hR, hW⟩
  obtain ⟨neg, A, n, c, x, rfl, hN⟩ := NumC.of hR
  exact ⟨neg, A, n, c, x, rfl, hN.raise 1074, hW⟩
theorem opc_times (u v base : Nat) (hu : u < 18446744073709551616) (hv : v < 18446744073709551616) : OpC 16 base (numV u) (numV v) (numV u * numV v) := by
  intro W n1 n2 A1 A2 l1 l2 c1 c2 x1 x2 hb hx hy
  refine (times_num 1074 1074 base 2098 (numV u) (numV v) _ _ W hb hx hy (numV_bd hu) (numV_bd hv) (by decide) (by decide) (by decide)).mono ?_
  rintro e w' ⟨cs, rfl, hR, hW⟩
  obtain ⟨neg, A, n, c, x, rfl, hN⟩ := NumC.of hR
  exact ⟨neg, A, n, c, x, rfl, hN, hW⟩
abbrev b0_lt (w w2 : World) : Prop := w.heap.size < w2.heap.size
set_option maxHeartbeats 4000000 in
set_option maxRecDepth 100000 in
theorem exact_bad (c : Int) (u v base : Nat) (hu : u < 18446744073709551616) (hv : v < 18446744073709551616) (hf : (fin u && fin v) = false) (w : World) (hbase : base ≤ w.heap.size) :
    Calls Tryz.prog 4 #[.int .i64 c, .float .f64 u, .float .f64 v] w fun e w' => ∃ (neg : Bool) (A : Option Addr) (n c : Nat) (x : Int), e = .returned (.tuple #[.agg #[.bool neg, .slice A n c, .int .i64 x], .bool false]) ∧ NumC 2148 w' base 0 neg A n c x ∧ Below w.heap.size w w' := by
  have HU := Lib.hid (fun W (h : base ≤ W.heap.size) => lnum_calls u base W hu h)
  have HV := Lib.hid (fun W (h : base ≤ W.heap.size) => lnum_calls v base W hv h)
  have HW := Lib.hid (below_new (Below.refl w.heap.size w) (.cells #[.bool false, .slice none 0 0, .int .i64 0] 25))
  have HN := Lib.hid (num_new w)
  obtain ⟨f1, h1⟩ : ∃ f, fin u = f := ⟨_, rfl⟩
  obtain ⟨f2, h2⟩ : ∃ f, fin v = f := ⟨_, rfl⟩
  rw [h1] at HU
  rw [h2] at HV
  rw [h1, h2] at hf
  have HBASE := Lib.hid hbase
  clear hu hv hbase h1 h2
  go_enter Tryz.func4, Tryz.ntmps4
  go_wp2_with fail
  refine (HU.out _ (Nat.le_trans HBASE.out HW.out.size)).mono ?_
  rintro e w2 ⟨n1, A1, l1, c1, x1, rfl, hR, hW⟩
  have hb0 : b0_lt w w2 := Nat.lt_of_lt_of_le (HN.out.lt) hW.size
  have hal := num_blk w2 n1 A1 l1 c1 x1
  have hB := below_new (Below.refl w2.heap.size w2) (.cells #[.bool n1, .slice A1 l1 c1, .int .i64 x1] 25)
  have H2 : Hid (Blk (w2.alloc (.cells #[.bool n1, .slice A1 l1 c1, .int .i64 x1] 25)) w.heap.size 25 [.bool false, .slice none 0 0, .int .i64 0] ∧ Blk (w2.alloc (.cells #[.bool n1, .slice A1 l1 c1, .int .i64 x1] 25)) w2.heap.size 25 [.bool n1, .slice A1 l1 c1, .int .i64 x1] ∧ NumC 1074 (w2.alloc (.cells #[.bool n1, .slice A1 l1 c1, .int .i64 x1] 25)) base (numV u) n1 A1 l1 c1 x1 ∧ Below w.heap.size w (w2.alloc (.cells #[.bool n1, .slice A1 l1 c1, .int .i64 x1] 25)) ∧ w.heap.size < w2.heap.size) :=
    ⟨(HN.out.below' hW).below' hB, hal, hR.below hB, (HW.out.trans (hW.mono HW.out.size)).trans (hB.mono (Nat.le_of_lt hb0)), hb0⟩
  clear hR hW hb0 hal hB
  go_wp2_with fail
  refine (HV.out _ (Nat.le_trans HBASE.out H2.out.2.2.2.1.size)).mono ?_
  rintro e w3 ⟨n2, A2, l2, c2, x2, rfl, hR, hW⟩
  have hal := num_blk w3 n2 A2 l2 c2 x2
  have hB := below_new (Below.refl w3.heap.size w3) (.cells #[.bool n2, .slice A2 l2 c2, .int .i64 x2] 25)
  have hsz := H2.out.2.2.2.1.size
  have H3 : Hid (Blk (w3.alloc (.cells #[.bool n2, .slice A2 l2 c2, .int .i64 x2] 25)) w.heap.size 25 [.bool false, .slice none 0 0, .int .i64 0] ∧ Blk (w3.alloc (.cells #[.bool n2, .slice A2 l2 c2, .int .i64 x2] 25)) w2.heap.size 25 [.bool n1, .slice A1 l1 c1, .int .i64 x1] ∧ Blk (w3.alloc (.cells #[.bool n2, .slice A2 l2 c2, .int .i64 x2] 25)) w3.heap.size 25 [.bool n2, .slice A2 l2 c2, .int .i64 x2] ∧ NumC 1074 (w3.alloc (.cells #[.bool n2, .slice A2 l2 c2, .int .i64 x2] 25)) base (numV u) n1 A1 l1 c1 x1 ∧ NumC 1074 (w3.alloc (.cells #[.bool n2, .slice A2 l2 c2, .int .i64 x2] 25)) base (numV v) n2 A2 l2 c2 x2 ∧ Below w.heap.size w (w3.alloc (.cells #[.bool n2, .slice A2 l2 c2, .int .i64 x2] 25))) :=
    ⟨(H2.out.1.below' hW).below' hB, (H2.out.2.1.below' hW).below' hB, hal, (H2.out.2.2.1.below hW).below hB, hR.below hB, (H2.out.2.2.2.1.trans (hW.mono hsz)).trans (hB.mono (Nat.le_trans hsz hW.size))⟩
  clear hR hW hal hB hsz
  obtain ⟨⟨y0, y1, y2⟩, _⟩ := three H3.out.2.1
  obtain ⟨⟨z0, z1, z2⟩, _⟩ := three H3.out.2.2.1
  have hR := num_zero 2148 (w3.alloc (.cells #[.bool n2, .slice A2 l2 c2, .int .i64 x2] 25)) base
  have hb := H3.out.1
  have hWW := H3.out.2.2.2.2.2
  have HF : Hid (NumC 2148 ((((w3.alloc (.cells #[.bool n2, .slice A2 l2 c2, .int .i64 x2] 25)).setCell ⟨w.heap.size, 0, none⟩ (.bool false)).setCell ⟨w.heap.size, 1, none⟩ (.slice none 0 0)).setCell ⟨w.heap.size, 2, none⟩ (.int .i64 0)) base 0 false none 0 0 0 ∧ Below w.heap.size w ((((w3.alloc (.cells #[.bool n2, .slice A2 l2 c2, .int .i64 x2] 25)).setCell ⟨w.heap.size, 0, none⟩ (.bool false)).setCell ⟨w.heap.size, 1, none⟩ (.slice none 0 0)).setCell ⟨w.heap.size, 2, none⟩ (.int .i64 0)) ∧ Blk ((((w3.alloc (.cells #[.bool n2, .slice A2 l2 c2, .int .i64 x2] 25)).setCell ⟨w.heap.size, 0, none⟩ (.bool false)).setCell ⟨w.heap.size, 1, none⟩ (.slice none 0 0)).setCell ⟨w.heap.size, 2, none⟩ (.int .i64 0)) w.heap.size 25 [.bool false, .slice none 0 0, .int .i64 0]) :=
    ⟨((hR.set hb HBASE.out 0 _).set (hb.set 0 _) HBASE.out 1 _).set ((hb.set 0 _).set 1 _) HBASE.out 2 _, ((hWW.setCell (p := ⟨w.heap.size, 0, none⟩) (Nat.le_refl _) _).setCell (p := ⟨w.heap.size, 1, none⟩) (Nat.le_refl _) _).setCell (p := ⟨w.heap.size, 2, none⟩) (Nat.le_refl _) _, ((hb.set 0 _).set 1 _).set 2 _⟩
  obtain ⟨⟨k0, k1, k2⟩, g0, g1, g2⟩ := three hb
  clear hR hb hWW
  cases f1 <;> cases f2 <;> try (exact absurd hf (by decide))
  all_goals (
    go_wp2
    obtain ⟨w9, hw9⟩ : ∃ W, (((w3.alloc (.cells #[.bool n2, .slice A2 l2 c2, .int .i64 x2] 25)).setCell ⟨w.heap.size, 0, none⟩ (.bool false)).setCell ⟨w.heap.size, 1, none⟩ (.slice none 0 0)).setCell ⟨w.heap.size, 2, none⟩ (.int .i64 0) = W := ⟨_, rfl⟩
    rw [hw9] at HF ⊢
    obtain ⟨⟨m0, m1, m2⟩, _⟩ := three HF.out.2.2
    exact bodyPost_ret (v := .tuple #[.agg #[.bool false, .slice none 0 0, .int .i64 0], .bool false]) (by simp [results, Tryz.results4, go_sem, m0, m1, m2]) rfl ⟨false, none, 0, 0, 0, rfl, HF.out.1, HF.out.2.1⟩)
set_option maxHeartbeats 4000000 in
set_option maxRecDepth 100000 in
theorem exact_p (u v base : Nat) (hu : u < 18446744073709551616) (hv : v < 18446744073709551616) (Z : Int) (hop : OpC 15 base (numV u) (numV v) Z) (hf1 : fin u = true) (hf2 : fin v = true) (w : World) (hbase : base ≤ w.heap.size) :
    Calls Tryz.prog 4 #[.int .i64 1, .float .f64 u, .float .f64 v] w fun e w' => ∃ (neg : Bool) (A : Option Addr) (n c : Nat) (x : Int), e = .returned (.tuple #[.agg #[.bool neg, .slice A n c, .int .i64 x], .bool true]) ∧ NumC 2148 w' base Z neg A n c x ∧ Below w.heap.size w w' := by
  have HU := Lib.hid (fun W (h : base ≤ W.heap.size) => lnum_calls u base W hu h)
  have HV := Lib.hid (fun W (h : base ≤ W.heap.size) => lnum_calls v base W hv h)
  have HW := Lib.hid (below_new (Below.refl w.heap.size w) (.cells #[.bool false, .slice none 0 0, .int .i64 0] 25))
  have HN := Lib.hid (num_new w)
  rw [hf1] at HU
  rw [hf2] at HV
  have HOP := Lib.hid hop
  have HBASE := Lib.hid hbase
  clear hu hv hbase hf1 hf2 hop
  go_enter Tryz.func4, Tryz.ntmps4
  go_wp2_with fail
  refine (HU.out _ (Nat.le_trans HBASE.out HW.out.size)).mono ?_
  rintro e w2 ⟨n1, A1, l1, c1, x1, rfl, hR, hW⟩
  have hb0 : b0_lt w w2 := Nat.lt_of_lt_of_le (HN.out.lt) hW.size
  have hal := num_blk w2 n1 A1 l1 c1 x1
  have hB := below_new (Below.refl w2.heap.size w2) (.cells #[.bool n1, .slice A1 l1 c1, .int .i64 x1] 25)
  have H2 : Hid (Blk (w2.alloc (.cells #[.bool n1, .slice A1 l1 c1, .int .i64 x1] 25)) w.heap.size 25 [.bool false, .slice none 0 0, .int .i64 0] ∧ Blk (w2.alloc (.cells #[.bool n1, .slice A1 l1 c1, .int .i64 x1] 25)) w2.heap.size 25 [.bool n1, .slice A1 l1 c1, .int .i64 x1] ∧ NumC 1074 (w2.alloc (.cells #[.bool n1, .slice A1 l1 c1, .int .i64 x1] 25)) base (numV u) n1 A1 l1 c1 x1 ∧ Below w.heap.size w (w2.alloc (.cells #[.bool n1, .slice A1 l1 c1, .int .i64 x1] 25)) ∧ w.heap.size < w2.heap.size) :=
    ⟨(HN.out.below' hW).below' hB, hal, hR.below hB, (HW.out.trans (hW.mono HW.out.size)).trans (hB.mono (Nat.le_of_lt hb0)), hb0⟩
  clear hR hW hb0 hal hB
  go_wp2_with fail
  refine (HV.out _ (Nat.le_trans HBASE.out H2.out.2.2.2.1.size)).mono ?_
  rintro e w3 ⟨n2, A2, l2, c2, x2, rfl, hR, hW⟩
  have hal := num_blk w3 n2 A2 l2 c2 x2
  have hB := below_new (Below.refl w3.heap.size w3) (.cells #[.bool n2, .slice A2 l2 c2, .int .i64 x2] 25)
  have hsz := H2.out.2.2.2.1.size
  have H3 : Hid (Blk (w3.alloc (.cells #[.bool n2, .slice A2 l2 c2, .int .i64 x2] 25)) w.heap.size 25 [.bool false, .slice none 0 0, .int .i64 0] ∧ Blk (w3.alloc (.cells #[.bool n2, .slice A2 l2 c2, .int .i64 x2] 25)) w2.heap.size 25 [.bool n1, .slice A1 l1 c1, .int .i64 x1] ∧ Blk (w3.alloc (.cells #[.bool n2, .slice A2 l2 c2, .int .i64 x2] 25)) w3.heap.size 25 [.bool n2, .slice A2 l2 c2, .int .i64 x2] ∧ NumC 1074 (w3.alloc (.cells #[.bool n2, .slice A2 l2 c2, .int .i64 x2] 25)) base (numV u) n1 A1 l1 c1 x1 ∧ NumC 1074 (w3.alloc (.cells #[.bool n2, .slice A2 l2 c2, .int .i64 x2] 25)) base (numV v) n2 A2 l2 c2 x2 ∧ Below w.heap.size w (w3.alloc (.cells #[.bool n2, .slice A2 l2 c2, .int .i64 x2] 25))) :=
    ⟨(H2.out.1.below' hW).below' hB, (H2.out.2.1.below' hW).below' hB, hal, (H2.out.2.2.1.below hW).below hB, hR.below hB, (H2.out.2.2.2.1.trans (hW.mono hsz)).trans (hB.mono (Nat.le_trans hsz hW.size))⟩
  clear hR hW hal hB hsz
  obtain ⟨⟨y0, y1, y2⟩, _⟩ := three H3.out.2.1
  obtain ⟨⟨z0, z1, z2⟩, _⟩ := three H3.out.2.2.1
  go_wp2_with fail
  refine (HOP.out _ n1 n2 A1 A2 l1 l2 c1 c2 x1 x2 (Nat.le_trans HBASE.out H3.out.2.2.2.2.2.size) H3.out.2.2.2.1 H3.out.2.2.2.2.1).mono ?_
  rintro e w4 ⟨neg, A, n, c, x, rfl, hR, hW⟩
  have hb := H3.out.1.below' hW
  have hWW := H3.out.2.2.2.2.2.trans (hW.mono H3.out.2.2.2.2.2.size)
  clear hW
  have HF : Hid (NumC 2148 (((w4.setCell ⟨w.heap.size, 0, none⟩ (.bool neg)).setCell ⟨w.heap.size, 1, none⟩ (.slice A n c)).setCell ⟨w.heap.size, 2, none⟩ (.int .i64 x)) base Z neg A n c x ∧ Below w.heap.size w (((w4.setCell ⟨w.heap.size, 0, none⟩ (.bool neg)).setCell ⟨w.heap.size, 1, none⟩ (.slice A n c)).setCell ⟨w.heap.size, 2, none⟩ (.int .i64 x)) ∧ Blk (((w4.setCell ⟨w.heap.size, 0, none⟩ (.bool neg)).setCell ⟨w.heap.size, 1, none⟩ (.slice A n c)).setCell ⟨w.heap.size, 2, none⟩ (.int .i64 x)) w.heap.size 25 [.bool neg, .slice A n c, .int .i64 x]) :=
    ⟨((hR.set hb HBASE.out 0 _).set (hb.set 0 _) HBASE.out 1 _).set ((hb.set 0 _).set 1 _) HBASE.out 2 _, ((hWW.setCell (p := ⟨w.heap.size, 0, none⟩) (Nat.le_refl _) _).setCell (p := ⟨w.heap.size, 1, none⟩) (Nat.le_refl _) _).setCell (p := ⟨w.heap.size, 2, none⟩) (Nat.le_refl _) _, ((hb.set 0 _).set 1 _).set 2 _⟩
  obtain ⟨⟨k0, k1, k2⟩, g0, g1, g2⟩ := three hb
  clear hR hb hWW
  go_wp2
  obtain ⟨w9, hw9⟩ : ∃ W, ((w4.setCell ⟨w.heap.size, 0, none⟩ (.bool neg)).setCell ⟨w.heap.size, 1, none⟩ (.slice A n c)).setCell ⟨w.heap.size, 2, none⟩ (.int .i64 x) = W := ⟨_, rfl⟩
  rw [hw9] at HF ⊢
  obtain ⟨⟨m0, m1, m2⟩, _⟩ := three HF.out.2.2
  exact bodyPost_ret (v := .tuple #[.agg #[.bool neg, .slice A n c, .int .i64 x], .bool true]) (by simp [results, Tryz.results4, go_sem, m0, m1, m2]) rfl ⟨neg, A, n, c, x, rfl, HF.out.1, HF.out.2.1⟩
set_option maxHeartbeats 4000000 in
set_option maxRecDepth 100000 in
theorem exact_m (u v base : Nat) (hu : u < 18446744073709551616) (hv : v < 18446744073709551616) (Z : Int) (hop : OpC 13 base (numV u) (numV v) Z) (hf1 : fin u = true) (hf2 : fin v = true) (w : World) (hbase : base ≤ w.heap.size) :
    Calls Tryz.prog 4 #[.int .i64 2, .float .f64 u, .float .f64 v] w fun e w' => ∃ (neg : Bool) (A : Option Addr) (n c : Nat) (x : Int), e = .returned (.tuple #[.agg #[.bool neg, .slice A n c, .int .i64 x], .bool true]) ∧ NumC 2148 w' base Z neg A n c x ∧ Below w.heap.size w w' := by
  have HU := Lib.hid (fun W (h : base ≤ W.heap.size) => lnum_calls u base W hu h)
  have HV := Lib.hid (fun W (h : base ≤ W.heap.size) => lnum_calls v base W hv h)
  have HW := Lib.hid (below_new (Below.refl w.heap.size w) (.cells #[.bool false, .slice none 0 0, .int .i64 0] 25))
  have HN := Lib.hid (num_new w)
  rw [hf1] at HU
  rw [hf2] at HV
  have HOP := Lib.hid hop
  have HBASE := Lib.hid hbase
  clear hu hv hbase hf1 hf2 hop
  go_enter Tryz.func4, Tryz.ntmps4
  go_wp2_with fail
  refine (HU.out _ (Nat.le_trans HBASE.out HW.out.size)).mono ?_
  rintro e w2 ⟨n1, A1, l1, c1, x1, rfl, hR, hW⟩
  have hb0 : b0_lt w w2 := Nat.lt_of_lt_of_le (HN.out.lt) hW.size
  have hal := num_blk w2 n1 A1 l1 c1 x1
  have hB := below_new (Below.refl w2.heap.size w2) (.cells #[.bool n1, .slice A1 l1 c1, .int .i64 x1] 25)
  have H2 : Hid (Blk (w2.alloc (.cells #[.bool n1, .slice A1 l1 c1, .int .i64 x1] 25)) w.heap.size 25 [.bool false, .slice none 0 0, .int .i64 0] ∧ Blk (w2.alloc (.cells #[.bool n1, .slice A1 l1 c1, .int .i64 x1] 25)) w2.heap.size 25 [.bool n1, .slice A1 l1 c1, .int .i64 x1] ∧ NumC 1074 (w2.alloc (.cells #[.bool n1, .slice A1 l1 c1, .int .i64 x1] 25)) base (numV u) n1 A1 l1 c1 x1 ∧ Below w.heap.size w (w2.alloc (.cells #[.bool n1, .slice A1 l1 c1, .int .i64 x1] 25)) ∧ w.heap.size < w2.heap.size) :=
    ⟨(HN.out.below' hW).below' hB, hal, hR.below hB, (HW.out.trans (hW.mono HW.out.size)).trans (hB.mono (Nat.le_of_lt hb0)), hb0⟩
  clear hR hW hb0 hal hB
  go_wp2_with fail
  refine (HV.out _ (Nat.le_trans HBASE.out H2.out.2.2.2.1.size)).mono ?_
  rintro e w3 ⟨n2, A2, l2, c2, x2, rfl, hR, hW⟩
  have hal := num_blk w3 n2 A2 l2 c2 x2
  have hB := below_new (Below.refl w3.heap.size w3) (.cells #[.bool n2, .slice A2 l2 c2, .int .i64 x2] 25)
  have hsz := H2.out.2.2.2.1.size
  have H3 : Hid (Blk (w3.alloc (.cells #[.bool n2, .slice A2 l2 c2, .int .i64 x2] 25)) w.heap.size 25 [.bool false, .slice none 0 0, .int .i64 0] ∧ Blk (w3.alloc (.cells #[.bool n2, .slice A2 l2 c2, .int .i64 x2] 25)) w2.heap.size 25 [.bool n1, .slice A1 l1 c1, .int .i64 x1] ∧ Blk (w3.alloc (.cells #[.bool n2, .slice A2 l2 c2, .int .i64 x2] 25)) w3.heap.size 25 [.bool n2, .slice A2 l2 c2, .int .i64 x2] ∧ NumC 1074 (w3.alloc (.cells #[.bool n2, .slice A2 l2 c2, .int .i64 x2] 25)) base (numV u) n1 A1 l1 c1 x1 ∧ NumC 1074 (w3.alloc (.cells #[.bool n2, .slice A2 l2 c2, .int .i64 x2] 25)) base (numV v) n2 A2 l2 c2 x2 ∧ Below w.heap.size w (w3.alloc (.cells #[.bool n2, .slice A2 l2 c2, .int .i64 x2] 25))) :=
    ⟨(H2.out.1.below' hW).below' hB, (H2.out.2.1.below' hW).below' hB, hal, (H2.out.2.2.1.below hW).below hB, hR.below hB, (H2.out.2.2.2.1.trans (hW.mono hsz)).trans (hB.mono (Nat.le_trans hsz hW.size))⟩
  clear hR hW hal hB hsz
  obtain ⟨⟨y0, y1, y2⟩, _⟩ := three H3.out.2.1
  obtain ⟨⟨z0, z1, z2⟩, _⟩ := three H3.out.2.2.1
  go_wp2_with fail
  refine (HOP.out _ n1 n2 A1 A2 l1 l2 c1 c2 x1 x2 (Nat.le_trans HBASE.out H3.out.2.2.2.2.2.size) H3.out.2.2.2.1 H3.out.2.2.2.2.1).mono ?_
  rintro e w4 ⟨neg, A, n, c, x, rfl, hR, hW⟩
  have hb := H3.out.1.below' hW
  have hWW := H3.out.2.2.2.2.2.trans (hW.mono H3.out.2.2.2.2.2.size)
  clear hW
  have HF : Hid (NumC 2148 (((w4.setCell ⟨w.heap.size, 0, none⟩ (.bool neg)).setCell ⟨w.heap.size, 1, none⟩ (.slice A n c)).setCell ⟨w.heap.size, 2, none⟩ (.int .i64 x)) base Z neg A n c x ∧ Below w.heap.size w (((w4.setCell ⟨w.heap.size, 0, none⟩ (.bool neg)).setCell ⟨w.heap.size, 1, none⟩ (.slice A n c)).setCell ⟨w.heap.size, 2, none⟩ (.int .i64 x)) ∧ Blk (((w4.setCell ⟨w.heap.size, 0, none⟩ (.bool neg)).setCell ⟨w.heap.size, 1, none⟩ (.slice A n c)).setCell ⟨w.heap.size, 2, none⟩ (.int .i64 x)) w.heap.size 25 [.bool neg, .slice A n c, .int .i64 x]) :=
    ⟨((hR.set hb HBASE.out 0 _).set (hb.set 0 _) HBASE.out 1 _).set ((hb.set 0 _).set 1 _) HBASE.out 2 _, ((hWW.setCell (p := ⟨w.heap.size, 0, none⟩) (Nat.le_refl _) _).setCell (p := ⟨w.heap.size, 1, none⟩) (Nat.le_refl _) _).setCell (p := ⟨w.heap.size, 2, none⟩) (Nat.le_refl _) _, ((hb.set 0 _).set 1 _).set 2 _⟩
  obtain ⟨⟨k0, k1, k2⟩, g0, g1, g2⟩ := three hb
  clear hR hb hWW
  go_wp2
  obtain ⟨w9, hw9⟩ : ∃ W, ((w4.setCell ⟨w.heap.size, 0, none⟩ (.bool neg)).setCell ⟨w.heap.size, 1, none⟩ (.slice A n c)).setCell ⟨w.heap.size, 2, none⟩ (.int .i64 x) = W := ⟨_, rfl⟩
  rw [hw9] at HF ⊢
  obtain ⟨⟨m0, m1, m2⟩, _⟩ := three HF.out.2.2
  exact bodyPost_ret (v := .tuple #[.agg #[.bool neg, .slice A n c, .int .i64 x], .bool true]) (by simp [results, Tryz.results4, go_sem, m0, m1, m2]) rfl ⟨neg, A, n, c, x, rfl, HF.out.1, HF.out.2.1⟩
set_option maxHeartbeats 4000000 in
set_option maxRecDepth 100000 in
theorem exact_t (u v base : Nat) (hu : u < 18446744073709551616) (hv : v < 18446744073709551616) (Z : Int) (hop : OpC 16 base (numV u) (numV v) Z) (hf1 : fin u = true) (hf2 : fin v = true) (w : World) (hbase : base ≤ w.heap.size) :
    Calls Tryz.prog 4 #[.int .i64 3, .float .f64 u, .float .f64 v] w fun e w' => ∃ (neg : Bool) (A : Option Addr) (n c : Nat) (x : Int), e = .returned (.tuple #[.agg #[.bool neg, .slice A n c, .int .i64 x], .bool true]) ∧ NumC 2148 w' base Z neg A n c x ∧ Below w.heap.size w w' := by
  have HU := Lib.hid (fun W (h : base ≤ W.heap.size) => lnum_calls u base W hu h)
  have HV := Lib.hid (fun W (h : base ≤ W.heap.size) => lnum_calls v base W hv h)
  have HW := Lib.hid (below_new (Below.refl w.heap.size w) (.cells #[.bool false, .slice none 0 0, .int .i64 0] 25))
  have HN := Lib.hid (num_new w)
  rw [hf1] at HU
  rw [hf2] at HV
  have HOP := Lib.hid hop
  have HBASE := Lib.hid hbase
  clear hu hv hbase hf1 hf2 hop
  go_enter Tryz.func4, Tryz.ntmps4
  go_wp2_with fail
  refine (HU.out _ (Nat.le_trans HBASE.out HW.out.size)).mono ?_
  rintro e w2 ⟨n1, A1, l1, c1, x1, rfl, hR, hW⟩
  have hb0 : b0_lt w w2 := Nat.lt_of_lt_of_le (HN.out.lt) hW.size
  have hal := num_blk w2 n1 A1 l1 c1 x1
  have hB := below_new (Below.refl w2.heap.size w2) (.cells #[.bool n1, .slice A1 l1 c1, .int .i64 x1] 25)
  have H2 : Hid (Blk (w2.alloc (.cells #[.bool n1, .slice A1 l1 c1, .int .i64 x1] 25)) w.heap.size 25 [.bool false, .slice none 0 0, .int .i64 0] ∧ Blk (w2.alloc (.cells #[.bool n1, .slice A1 l1 c1, .int .i64 x1] 25)) w2.heap.size 25 [.bool n1, .slice A1 l1 c1, .int .i64 x1] ∧ NumC 1074 (w2.alloc (.cells #[.bool n1, .slice A1 l1 c1, .int .i64 x1] 25)) base (numV u) n1 A1 l1 c1 x1 ∧ Below w.heap.size w (w2.alloc (.cells #[.bool n1, .slice A1 l1 c1, .int .i64 x1] 25)) ∧ w.heap.size < w2.heap.size) :=
    ⟨(HN.out.below' hW).below' hB, hal, hR.below hB, (HW.out.trans (hW.mono HW.out.size)).trans (hB.mono (Nat.le_of_lt hb0)), hb0⟩
  clear hR hW hb0 hal hB
  go_wp2_with fail
  refine (HV.out _ (Nat.le_trans HBASE.out H2.out.2.2.2.1.size)).mono ?_
  rintro e w3 ⟨n2, A2, l2, c2, x2, rfl, hR, hW⟩
  have hal := num_blk w3 n2 A2 l2 c2 x2
  have hB := below_new (Below.refl w3.heap.size w3) (.cells #[.bool n2, .slice A2 l2 c2, .int .i64 x2] 25)
  have hsz := H2.out.2.2.2.1.size
  have H3 : Hid (Blk (w3.alloc (.cells #[.bool n2, .slice A2 l2 c2, .int .i64 x2] 25)) w.heap.size 25 [.bool false, .slice none 0 0, .int .i64 0] ∧ Blk (w3.alloc (.cells #[.bool n2, .slice A2 l2 c2, .int .i64 x2] 25)) w2.heap.size 25 [.bool n1, .slice A1 l1 c1, .int .i64 x1] ∧ Blk (w3.alloc (.cells #[.bool n2, .slice A2 l2 c2, .int .i64 x2] 25)) w3.heap.size 25 [.bool n2, .slice A2 l2 c2, .int .i64 x2] ∧ NumC 1074 (w3.alloc (.cells #[.bool n2, .slice A2 l2 c2, .int .i64 x2] 25)) base (numV u) n1 A1 l1 c1 x1 ∧ NumC 1074 (w3.alloc (.cells #[.bool n2, .slice A2 l2 c2, .int .i64 x2] 25)) base (numV v) n2 A2 l2 c2 x2 ∧ Below w.heap.size w (w3.alloc (.cells #[.bool n2, .slice A2 l2 c2, .int .i64 x2] 25))) :=
    ⟨(H2.out.1.below' hW).below' hB, (H2.out.2.1.below' hW).below' hB, hal, (H2.out.2.2.1.below hW).below hB, hR.below hB, (H2.out.2.2.2.1.trans (hW.mono hsz)).trans (hB.mono (Nat.le_trans hsz hW.size))⟩
  clear hR hW hal hB hsz
  obtain ⟨⟨y0, y1, y2⟩, _⟩ := three H3.out.2.1
  obtain ⟨⟨z0, z1, z2⟩, _⟩ := three H3.out.2.2.1
  go_wp2_with fail
  refine (HOP.out _ n1 n2 A1 A2 l1 l2 c1 c2 x1 x2 (Nat.le_trans HBASE.out H3.out.2.2.2.2.2.size) H3.out.2.2.2.1 H3.out.2.2.2.2.1).mono ?_
  rintro e w4 ⟨neg, A, n, c, x, rfl, hR, hW⟩
  have hb := H3.out.1.below' hW
  have hWW := H3.out.2.2.2.2.2.trans (hW.mono H3.out.2.2.2.2.2.size)
  clear hW
  have HF : Hid (NumC 2148 (((w4.setCell ⟨w.heap.size, 0, none⟩ (.bool neg)).setCell ⟨w.heap.size, 1, none⟩ (.slice A n c)).setCell ⟨w.heap.size, 2, none⟩ (.int .i64 x)) base Z neg A n c x ∧ Below w.heap.size w (((w4.setCell ⟨w.heap.size, 0, none⟩ (.bool neg)).setCell ⟨w.heap.size, 1, none⟩ (.slice A n c)).setCell ⟨w.heap.size, 2, none⟩ (.int .i64 x)) ∧ Blk (((w4.setCell ⟨w.heap.size, 0, none⟩ (.bool neg)).setCell ⟨w.heap.size, 1, none⟩ (.slice A n c)).setCell ⟨w.heap.size, 2, none⟩ (.int .i64 x)) w.heap.size 25 [.bool neg, .slice A n c, .int .i64 x]) :=
    ⟨((hR.set hb HBASE.out 0 _).set (hb.set 0 _) HBASE.out 1 _).set ((hb.set 0 _).set 1 _) HBASE.out 2 _, ((hWW.setCell (p := ⟨w.heap.size, 0, none⟩) (Nat.le_refl _) _).setCell (p := ⟨w.heap.size, 1, none⟩) (Nat.le_refl _) _).setCell (p := ⟨w.heap.size, 2, none⟩) (Nat.le_refl _) _, ((hb.set 0 _).set 1 _).set 2 _⟩
  obtain ⟨⟨k0, k1, k2⟩, g0, g1, g2⟩ := three hb
  clear hR hb hWW
  go_wp2
  obtain ⟨w9, hw9⟩ : ∃ W, ((w4.setCell ⟨w.heap.size, 0, none⟩ (.bool neg)).setCell ⟨w.heap.size, 1, none⟩ (.slice A n c)).setCell ⟨w.heap.size, 2, none⟩ (.int .i64 x) = W := ⟨_, rfl⟩
  rw [hw9] at HF ⊢
  obtain ⟨⟨m0, m1, m2⟩, _⟩ := three HF.out.2.2
  exact bodyPost_ret (v := .tuple #[.agg #[.bool neg, .slice A n c, .int .i64 x], .bool true]) (by simp [results, Tryz.results4, go_sem, m0, m1, m2]) rfl ⟨neg, A, n, c, x, rfl, HF.out.1, HF.out.2.1⟩
end Go.Proofs.YtikdhkmcdmnadaaGreatFmtBesafter
