import Derived.Test.YtogjodnmegafdaaGreatFmtJ45
import Derived.Test.YtogjodnmegafdaaGreatFmtJ37
import Derived.Test.YtogjodnmegafdaaGreatFmtJ44
set_option linter.unusedVariables false
set_option linter.unusedSimpArgs false
namespace Go.Proofs.YtogjodnmegafdaaGreatFmt
open Go.RowKit
attribute [local go_sem ↓] Go.wp_at_zero Go.wp_at_succ

/-! ### RoundOrders -/
set_option maxHeartbeats 1000000 in
set_option maxRecDepth 100000 in
theorem orders_calls (c : Int) (o1 o2 : Option Nat) (w : World) :
    Calls Tryz.prog 26 #[.int .i64 c, .float .f64 (o1.getD 0), .bool o1.isSome, .float .f64 (o2.getD 0), .bool o2.isSome] w fun e w' => e = .returned (.bool (ordB c o1 o2)) ∧ w = w' := by
  unfold ordB
  have ex : ∀ x y : Nat, Ieee.double.order x y = FloatKind.f64.format.order x y := fun _ _ => rfl
  cases o1 with
  | none =>
    simp only [Option.getD_none, Option.isSome_none, Bool.not_false, Bool.true_or, if_true]
    go_enter Tryz.func26, Tryz.ntmps26
    go_wp2
    go_ret
    exact ⟨rfl, rfl⟩
  | some x =>
    cases o2 with
    | none =>
      simp only [Option.getD_none, Option.isSome_none, Option.getD_some, Option.isSome_some, Bool.not_false, Bool.not_true, Bool.false_or, Bool.true_or, if_true]
      go_enter Tryz.func26, Tryz.ntmps26
      go_wp2
      go_ret
      exact ⟨rfl, rfl⟩
    | some y =>
      simp only [Option.getD_some, Option.isSome_some, Bool.not_true, Bool.false_or, ex]
      obtain ⟨r1, h1⟩ : ∃ r, (FloatKind.f64.format.order x y == some .eq) = r := ⟨_, rfl⟩
      obtain ⟨r2, h2⟩ : ∃ r, (FloatKind.f64.format.order x y == some .lt) = r := ⟨_, rfl⟩
      obtain ⟨r3, h3⟩ : ∃ r, (FloatKind.f64.format.order y x == some .eq) = r := ⟨_, rfl⟩
      obtain ⟨r4, h4⟩ : ∃ r, (FloatKind.f64.format.order y x == some .lt) = r := ⟨_, rfl⟩
      rw [h1, h2, h3, h4]
      rcases Int.lt_trichotomy c 0 with hc | hc | hc
      · have g1 : ¬ c = 0 := by omega
        have g2 : ¬ 0 < c := by omega
        rw [decide_eq_false g1, decide_eq_true hc, decide_eq_false g2]
        simp only [Bool.false_eq_true, if_false, Bool.true_and, Bool.false_and, Bool.or_false]
        have h12 : (FloatKind.f64.format.order x y == some .lt || FloatKind.f64.format.order x y == some .eq) = (r2 || r1) := by rw [h1, h2]
        clear h1 h2 h3 h4
        go_enter Tryz.func26, Tryz.ntmps26
        obtain ⟨r, hr⟩ : ∃ r, (r2 || r1) = r := ⟨_, rfl⟩
        rw [hr] at h12 ⊢
        clear hr
        cases r
        all_goals (
          go_wp2
          go_ret
          exact ⟨rfl, rfl⟩)
      · subst hc
        simp only [decide_true, if_true, Bool.true_or]
        clear h2 h3 h4
        go_enter Tryz.func26, Tryz.ntmps26
        cases r1
        all_goals (
          go_wp2
          go_ret
          exact ⟨rfl, rfl⟩)
      · have g1 : ¬ c = 0 := by omega
        have g2 : ¬ c < 0 := by omega
        rw [decide_eq_false g1, decide_eq_true hc, decide_eq_false g2]
        simp only [Bool.false_eq_true, if_false, Bool.true_and, Bool.false_and, Bool.false_or]
        have h12 : (FloatKind.f64.format.order y x == some .lt || FloatKind.f64.format.order y x == some .eq) = (r4 || r3) := by rw [h3, h4]
        clear h1 h2 h3 h4
        obtain ⟨r, hr⟩ : ∃ r, (r4 || r3) = r := ⟨_, rfl⟩
        rw [hr] at h12 ⊢
        clear hr
        go_enter Tryz.func26, Tryz.ntmps26
        cases r
        all_goals (
          go_wp2
          go_ret
          exact ⟨rfl, rfl⟩)
set_option exponentiation.threshold 30000 in
theorem mvb {x : Int} (h : x.natAbs < 2 ^ 2098) : (x * ((2 ^ 5126 : Nat) : Int)).natAbs < 2 ^ 20000 := by
  rw [Int.natAbs_mul, Int.natAbs_natCast]
  have h1 := Nat.mul_lt_mul_of_pos_right h (Nat.pow_pos (n := 5126) (a := 2) (by decide))
  rw [← Nat.pow_add] at h1
  exact Nat.lt_of_lt_of_le h1 (Nat.pow_le_pow_right (by decide) (by decide))
set_option exponentiation.threshold 30000 in
theorem mvb2 {x : Int} {j : Nat} (h : x.natAbs < 2 ^ 2098) (hj : j ≤ 9126) : (x * ((2 ^ 5126 : Nat) : Int) * ((2 ^ j : Nat) : Int)).natAbs < 2 ^ 20000 := by
  rw [Int.natAbs_mul, Int.natAbs_mul, Int.natAbs_natCast, Int.natAbs_natCast, Nat.mul_assoc, ← Nat.pow_add]
  have h1 := Nat.mul_lt_mul_of_pos_right h (Nat.pow_pos (n := 5126 + j) (a := 2) (by decide))
  rw [← Nat.pow_add] at h1
  exact Nat.lt_of_lt_of_le h1 (Nat.pow_le_pow_right (by decide) (by omega))
set_option exponentiation.threshold 30000 in
theorem mvb3 {x y : Int} (h : x.natAbs < 2 ^ 2098) (k : y.natAbs < 2 ^ 2098) : (x * ((2 ^ 5126 : Nat) : Int) * y).natAbs < 2 ^ 20000 := by
  rw [Int.natAbs_mul, Int.natAbs_mul, Int.natAbs_natCast]
  have h1 := Nat.mul_lt_mul_of_pos_right h (Nat.pow_pos (n := 5126) (a := 2) (by decide))
  rw [← Nat.pow_add] at h1
  refine Nat.lt_of_lt_of_le (Nat.mul_lt_mul'' h1 k) ?_
  rw [← Nat.pow_add]
  exact Nat.pow_le_pow_right (by decide) (by decide)
set_option exponentiation.threshold 30000 in
theorem mvb4 {x : Int} {j : Nat} (h : x.natAbs < 2 ^ 2098) (hj : j ≤ 10200) : (x * ((2 ^ j : Nat) : Int)).natAbs < 2 ^ 20000 := by
  rw [Int.natAbs_mul, Int.natAbs_natCast]
  have h1 := Nat.mul_lt_mul_of_pos_right h (Nat.pow_pos (n := j) (a := 2) (by decide))
  rw [← Nat.pow_add] at h1
  exact Nat.lt_of_lt_of_le h1 (Nat.pow_le_pow_right (by decide) (by omega))
set_option exponentiation.threshold 30000 in
theorem small_bd {x : Int} (h : x.natAbs < 2 ^ 2098) : x.natAbs < 2 ^ 20000 := Nat.lt_of_lt_of_le h (Nat.pow_le_pow_right (by decide) (by decide))
theorem cell_keep {w W : World} {q : Addr} {u : Value} (hW : Below w.heap.size w W) (h : w.cell? q = some u) : W.cell? q = some u := by
  have hlt : q.block < w.heap.size := by
    unfold World.cell? at h
    cases hh : w.heap[q.block]? with
    | none => rw [hh] at h; simp at h
    | some o => exact (Array.getElem?_eq_some_iff.1 hh).1
  exact (World.cell?_of_block (hW.block _ hlt)).trans h
theorem keep12 {w W : World} {q1 q2 q3 q4 q5 q6 q7 q8 q9 q10 q11 q12 : Addr} {u1 u2 u3 u4 u5 u6 u7 u8 u9 u10 u11 u12 : Value} (h1 : w.cell? q1 = some u1) (h2 : w.cell? q2 = some u2) (h3 : w.cell? q3 = some u3) (h4 : w.cell? q4 = some u4) (h5 : w.cell? q5 = some u5) (h6 : w.cell? q6 = some u6) (h7 : w.cell? q7 = some u7) (h8 : w.cell? q8 = some u8) (h9 : w.cell? q9 = some u9) (h10 : w.cell? q10 = some u10) (h11 : w.cell? q11 = some u11) (h12 : w.cell? q12 = some u12) (hW : Below w.heap.size w W) :
    W.cell? q1 = some u1 ∧ W.cell? q2 = some u2 ∧ W.cell? q3 = some u3 ∧ W.cell? q4 = some u4 ∧ W.cell? q5 = some u5 ∧ W.cell? q6 = some u6 ∧ W.cell? q7 = some u7 ∧ W.cell? q8 = some u8 ∧ W.cell? q9 = some u9 ∧ W.cell? q10 = some u10 ∧ W.cell? q11 = some u11 ∧ W.cell? q12 = some u12 := ⟨cell_keep hW h1, cell_keep hW h2, cell_keep hW h3, cell_keep hW h4, cell_keep hW h5, cell_keep hW h6, cell_keep hW h7, cell_keep hW h8, cell_keep hW h9, cell_keep hW h10, cell_keep hW h11, cell_keep hW h12⟩
theorem NumC.cast {K K' : Nat} {w : World} {base : Nat} {X : Int} {neg : Bool} {A : Option Addr} {n c : Nat} {x : Int} (h : NumC K w base X neg A n c x) (e : K = K') : NumC K' w base X neg A n c x := e ▸ h
set_option exponentiation.threshold 30000 in
set_option maxHeartbeats 8000000 in
set_option maxRecDepth 100000 in
theorem orders_bad (d n0 m0 : Int) (a b e f : Nat) (ha : a < 18446744073709551616) (hb : b < 18446744073709551616) (he : e < 18446744073709551616) (hf : f < 18446744073709551616) (f1 f2 f3 f4 : Bool) (hf1 : fin a = f1) (hf2 : fin b = f2) (hf3 : fin e = f3) (hf4 : fin f = f4) (hbad : (f1 && f2 && f3 && f4) = false ∨ Int.sign (numV b) = 0 ∨ Int.sign (numV f) = 0) (w : World) :
    Calls Tryz.prog 5 #[.int .i64 d, .float .f64 a, .float .f64 b, .float .f64 e, .float .f64 f, .int .i64 n0, .int .i64 m0] w fun e w' => e = .returned (.bool true) ∧ Below w.heap.size w w' := by
  have HB := Lib.hid (And.intro ha (And.intro hb (And.intro he hf)))
  have HBA := Lib.hid hbad
  clear ha hb he hf hbad
  go_enter Tryz.func5, Tryz.ntmps5
  go_wp2_with fail
  obtain ⟨n, hn⟩ : ∃ k, n0.tmod 3000 = k := ⟨_, rfl⟩
  obtain ⟨m, hm⟩ : ∃ k, m0.tmod 3000 = k := ⟨_, rfl⟩
  rw [hn, hm]
  clear hn hm
  refine (lnum_calls a w.heap.size w HB.out.1 (Nat.le_refl _)).mono ?_
  rintro e1 w1 ⟨n1, A1, l1, k1, x1, rfl, hR, hW⟩
  rw [hf1]
  have hB := below_new (Below.refl w1.heap.size w1) (.cells #[.bool n1, .slice A1 l1 k1, .int .i64 x1] 25)
  have H1 := Lib.hid (And.intro (NB.new hR) (below_next hW hB))
  clear hR hW hB
  go_wp2_with fail
  refine (lnum_calls b w.heap.size _ HB.out.2.1 H1.out.2.size).mono ?_
  rintro e1 w2 ⟨n2, A2, l2, k2, x2, rfl, hR, hW⟩
  rw [hf2]
  have hB := below_new (Below.refl w2.heap.size w2) (.cells #[.bool n2, .slice A2 l2 k2, .int .i64 x2] 25)
  have hb1 := below_next hW hB
  have H2 := Lib.hid (And.intro (H1.out.1.below hb1) (And.intro (NB.new hR) (below_next H1.out.2 hb1)))
  clear hR hW hB hb1 H1
  go_wp2_with fail
  refine (lnum_calls e w.heap.size _ HB.out.2.2.1 H2.out.2.2.size).mono ?_
  rintro e1 w3 ⟨n3, A3, l3, k3, x3, rfl, hR, hW⟩
  rw [hf3]
  have hB := below_new (Below.refl w3.heap.size w3) (.cells #[.bool n3, .slice A3 l3 k3, .int .i64 x3] 25)
  have hb1 := below_next hW hB
  have H3 := Lib.hid (And.intro (H2.out.1.below hb1) (And.intro (H2.out.2.1.below hb1) (And.intro (NB.new hR) (below_next H2.out.2.2 hb1))))
  clear hR hW hB hb1 H2
  go_wp2_with fail
  refine (lnum_calls f w.heap.size _ HB.out.2.2.2 H3.out.2.2.2.size).mono ?_
  rintro e1 w4 ⟨n4, A4, l4, k4, x4, rfl, hR, hW⟩
  rw [hf4]
  have hB := below_new (Below.refl w4.heap.size w4) (.cells #[.bool n4, .slice A4 l4 k4, .int .i64 x4] 25)
  have hb1 := below_next hW hB
  have H4 : Hid (Four w (w4.alloc (.cells #[.bool n4, .slice A4 l4 k4, .int .i64 x4] 25)) w.heap.size w1.heap.size w2.heap.size w3.heap.size w4.heap.size (numV a) (numV b) (numV e) (numV f) n1 n2 n3 n4 A1 A2 A3 A4 l1 l2 l3 l4 k1 k2 k3 k4 x1 x2 x3 x4) := ⟨H3.out.1.below hb1, H3.out.2.1.below hb1, H3.out.2.2.1.below hb1, NB.new hR, below_next H3.out.2.2.2 hb1⟩
  clear hR hW hB hb1 H3
  obtain ⟨a0, a1, a2⟩ := H4.out.x.cells
  obtain ⟨y0, y1, y2⟩ := H4.out.y.cells
  obtain ⟨p0, p1, p2⟩ := H4.out.p.cells
  obtain ⟨q0, q1, q2⟩ := H4.out.q.cells
  clear hf1 hf2 hf3 hf4
  have HSY := Lib.hid (fun (W : World) (hW : Below (w4.alloc (.cells #[.bool n4, .slice A4 l4 k4, .int .i64 x4] 25)).heap.size (w4.alloc (.cells #[.bool n4, .slice A4 l4 k4, .int .i64 x4] 25)) W) => sign_c 1074 w.heap.size (numV b) n2 A2 l2 k2 x2 W (H4.out.y.2.below hW))
  have HSV := Lib.hid (fun (W : World) (hW : Below (w4.alloc (.cells #[.bool n4, .slice A4 l4 k4, .int .i64 x4] 25)).heap.size (w4.alloc (.cells #[.bool n4, .slice A4 l4 k4, .int .i64 x4] 25)) W) => sign_c 1074 w.heap.size (numV f) n4 A4 l4 k4 x4 W (H4.out.q.2.below hW))
  have HBL : Hid (Below w.heap.size w (w4.alloc (.cells #[.bool n4, .slice A4 l4 k4, .int .i64 x4] 25))) := H4.out.bel
  rcases f1 with _ | _
  · go_wp2_with fail
    refine (started_calls _).mono ?_
    rintro e1 wz ⟨rfl, hW⟩
    have HZ := Lib.hid (below_next HBL.out hW)
    clear hW
    go_wp2
    go_ret
    exact ⟨rfl, HZ.out⟩
  rcases f2 with _ | _
  · go_wp2_with fail
    refine (started_calls _).mono ?_
    rintro e1 wz ⟨rfl, hW⟩
    have HZ := Lib.hid (below_next HBL.out hW)
    clear hW
    go_wp2
    go_ret
    exact ⟨rfl, HZ.out⟩
  rcases f3 with _ | _
  · go_wp2_with fail
    refine (started_calls _).mono ?_
    rintro e1 wz ⟨rfl, hW⟩
    have HZ := Lib.hid (below_next HBL.out hW)
    clear hW
    go_wp2
    go_ret
    exact ⟨rfl, HZ.out⟩
  rcases f4 with _ | _
  · go_wp2_with fail
    refine (started_calls _).mono ?_
    rintro e1 wz ⟨rfl, hW⟩
    have HZ := Lib.hid (below_next HBL.out hW)
    clear hW
    go_wp2
    go_ret
    exact ⟨rfl, HZ.out⟩
  by_cases hs : Int.sign (numV b) = 0
  · rw [hs] at HSY
    clear hs HBA HSV
    go_wp2_with fail
    refine (HSY.out _ (Below.refl _ _)).mono ?_
    rintro e1 w5 ⟨rfl, hW⟩
    have H5 := Lib.hid (below_next HBL.out hW)
    clear hW
    go_wp2_with fail
    refine (started_calls _).mono ?_
    rintro e1 wz ⟨rfl, hW⟩
    have HZ := Lib.hid (below_next H5.out hW)
    clear hW
    go_wp2
    go_ret
    exact ⟨rfl, HZ.out⟩
  · have hs2 : Int.sign (numV f) = 0 := by
      rcases HBA.out with h | h | h
      · exact absurd h (by decide)
      · exact absurd h hs
      · exact h
    obtain ⟨s, hss⟩ : ∃ s, Int.sign (numV b) = s := ⟨_, rfl⟩
    rw [hss] at HSY hs
    rw [hs2] at HSV
    clear hs2 hss HBA
    go_wp2_with fail
    refine (HSY.out _ (Below.refl _ _)).mono ?_
    rintro e1 w5 ⟨rfl, hW⟩
    have H5 := Lib.hid (H4.out.below hW)
    have HW5 := Lib.hid hW
    obtain ⟨q0, q1, q2⟩ := H5.out.q.cells
    clear hW
    go_wp2_with fail
    refine (HSV.out _ HW5.out).mono ?_
    rintro e1 w6 ⟨rfl, hW⟩
    have H6 := Lib.hid (below_next H5.out.bel hW)
    clear hW
    go_wp2_with fail
    refine (started_calls _).mono ?_
    rintro e1 wz ⟨rfl, hW⟩
    have HZ := Lib.hid (below_next H6.out hW)
    clear hW
    go_wp2
    go_ret
    exact ⟨rfl, HZ.out⟩
set_option exponentiation.threshold 30000 in
set_option maxHeartbeats 8000000 in
set_option maxRecDepth 100000 in
theorem orders_good (d n0 m0 : Int) (a b e f : Nat) (ha : a < 18446744073709551616) (hb : b < 18446744073709551616) (he : e < 18446744073709551616) (hf : f < 18446744073709551616) (hf1 : fin a = true) (hf2 : fin b = true) (hf3 : fin e = true) (hf4 : fin f = true) (hs1 : Int.sign (numV b) ≠ 0) (hs2 : Int.sign (numV f) ≠ 0) (w : World) :
    Calls Tryz.prog 5 #[.int .i64 d, .float .f64 a, .float .f64 b, .float .f64 e, .float .f64 f, .int .i64 n0, .int .i64 m0] w fun e w' => e = .returned (.bool true) ∧ Below w.heap.size w w' := by
  have HB := Lib.hid (And.intro ha (And.intro hb (And.intro he hf)))
  have HBD := Lib.hid (And.intro (numV_bd ha) (And.intro (numV_bd hb) (And.intro (numV_bd he) (numV_bd hf))))
  have hn1 : -3000 ≤ n0.tmod 3000 ∧ n0.tmod 3000 ≤ 3000 := by
    have := Int.tmod_lt_of_pos n0 (show (0 : Int) < 3000 by decide)
    have := Int.lt_tmod_of_pos n0 (show (0 : Int) < 3000 by decide)
    omega
  have hm1 : -3000 ≤ m0.tmod 3000 ∧ m0.tmod 3000 ≤ 3000 := by
    have := Int.tmod_lt_of_pos m0 (show (0 : Int) < 3000 by decide)
    have := Int.lt_tmod_of_pos m0 (show (0 : Int) < 3000 by decide)
    omega
  have HDV1 := Lib.hid (fun W => rdiv_calls d a b ha hb W)
  have HDV2 := Lib.hid (fun W => rdiv_calls d e f he hf W)
  have HR1 := Lib.hid (ord_ratios (d := d) ha hb he hf)
  rw [← numV_fin hf1, ← numV_fin hf2, ← numV_fin hf3, ← numV_fin hf4] at HR1
  have HVA := Lib.hid (numV_fin hf1)
  have HVE := Lib.hid (numV_fin hf3)
  have HVF := Lib.hid (numV_fin hf4)
  obtain ⟨o1, ho1⟩ : ∃ o, divS d a b = o := ⟨_, rfl⟩
  obtain ⟨o2, ho2⟩ : ∃ o, divS d e f = o := ⟨_, rfl⟩
  rw [ho1, ho2] at HR1
  rw [ho1] at HDV1
  rw [ho2] at HDV2
  have HO2 := Lib.hid ho2
  clear ha hb he hf ho1 ho2
  go_enter Tryz.func5, Tryz.ntmps5
  go_wp2_with fail
  obtain ⟨n, hn⟩ : ∃ k, n0.tmod 3000 = k := ⟨_, rfl⟩
  obtain ⟨m, hm⟩ : ∃ k, m0.tmod 3000 = k := ⟨_, rfl⟩
  rw [hn, hm]
  rw [hn] at hn1
  rw [hm] at hm1
  clear hn hm
  have HNM : Hid ((-1073741824 ≤ n ∧ n ≤ 1073741824) ∧ (-1073741824 ≤ m ∧ m ≤ 1073741824)) := ⟨by omega, by omega⟩
  obtain ⟨K1, hK1⟩ : ∃ K : Nat, (K : Int) = 6200 - n := ⟨(6200 - n).toNat, by omega⟩
  obtain ⟨K2, hK2⟩ : ∃ K : Nat, (K : Int) = 6200 - m := ⟨(6200 - m).toNat, by omega⟩
  have hKb : (K1 ≤ 10200 ∧ 1200 ≤ K1) ∧ (K2 ≤ 10200 ∧ 1200 ≤ K2) := by omega
  have HKK : Hid (((K1 : Nat) : Int) = ((6200 : Nat) : Int) - n ∧ ((K2 : Nat) : Int) = ((6200 : Nat) : Int) - m) := ⟨hK1, hK2⟩
  have HKB : Hid (K1 ≤ 1073741824 ∧ K2 ≤ 1073741824) := ⟨by omega, by omega⟩
  have HKR := Lib.hid hKb
  have HSC1 := Lib.hid (fun W => rscale_calls d a n HB.out.1 W)
  have HSC2 := Lib.hid (fun W => rscale_calls d e m HB.out.2.2.1 W)
  have HR2 := Lib.hid (ord_scales (d := d) (u := a) (v := e) (n := n) (m := m) (by omega) (by omega))
  have HR3 := Lib.hid (ord_mixed (d := d) (a := a) (u := e) (v := f) (n := n) HB.out.2.2.1 HB.out.2.2.2 (by omega))
  rw [show (5126 - m).toNat = K2 - 1074 by omega, show (5126 - n).toNat = K1 - 1074 by omega, ← HVA.out, ← HVE.out] at HR2
  rw [show (6200 - n).toNat = K1 by omega, ← HVA.out, ← HVE.out, ← HVF.out, HO2.out] at HR3
  obtain ⟨o3, ho3⟩ : ∃ o, scaleS 4000 d a n = o := ⟨_, rfl⟩
  obtain ⟨o4, ho4⟩ : ∃ o, scaleS 4000 d e m = o := ⟨_, rfl⟩
  rw [ho3] at HSC1 HR2 HR3
  rw [ho4] at HSC2 HR2
  have hwn : wrap64 n = n := by unfold wrap64; omega
  clear hn1 hm1 hK1 hK2 hKb ho3 ho4 HVA HVE HVF HO2
  refine (lnum_calls a w.heap.size w HB.out.1 (Nat.le_refl _)).mono ?_
  rintro e1 w1 ⟨n1, A1, l1, k1, x1, rfl, hR, hW⟩
  rw [hf1]
  have hB := below_new (Below.refl w1.heap.size w1) (.cells #[.bool n1, .slice A1 l1 k1, .int .i64 x1] 25)
  have H1 := Lib.hid (And.intro (NB.new hR) (below_next hW hB))
  clear hR hW hB
  go_wp2_with fail
  refine (lnum_calls b w.heap.size _ HB.out.2.1 H1.out.2.size).mono ?_
  rintro e1 w2 ⟨n2, A2, l2, k2, x2, rfl, hR, hW⟩
  rw [hf2]
  have hB := below_new (Below.refl w2.heap.size w2) (.cells #[.bool n2, .slice A2 l2 k2, .int .i64 x2] 25)
  have hb1 := below_next hW hB
  have H2 := Lib.hid (And.intro (H1.out.1.below hb1) (And.intro (NB.new hR) (below_next H1.out.2 hb1)))
  clear hR hW hB hb1 H1
  go_wp2_with fail
  refine (lnum_calls e w.heap.size _ HB.out.2.2.1 H2.out.2.2.size).mono ?_
  rintro e1 w3 ⟨n3, A3, l3, k3, x3, rfl, hR, hW⟩
  rw [hf3]
  have hB := below_new (Below.refl w3.heap.size w3) (.cells #[.bool n3, .slice A3 l3 k3, .int .i64 x3] 25)
  have hb1 := below_next hW hB
  have H3 := Lib.hid (And.intro (H2.out.1.below hb1) (And.intro (H2.out.2.1.below hb1) (And.intro (NB.new hR) (below_next H2.out.2.2 hb1))))
  clear hR hW hB hb1 H2
  go_wp2_with fail
  refine (lnum_calls f w.heap.size _ HB.out.2.2.2 H3.out.2.2.2.size).mono ?_
  rintro e1 w4 ⟨n4, A4, l4, k4, x4, rfl, hR, hW⟩
  rw [hf4]
  have hB := below_new (Below.refl w4.heap.size w4) (.cells #[.bool n4, .slice A4 l4 k4, .int .i64 x4] 25)
  have hb1 := below_next hW hB
  have H4 : Hid (Four w (w4.alloc (.cells #[.bool n4, .slice A4 l4 k4, .int .i64 x4] 25)) w.heap.size w1.heap.size w2.heap.size w3.heap.size w4.heap.size (numV a) (numV b) (numV e) (numV f) n1 n2 n3 n4 A1 A2 A3 A4 l1 l2 l3 l4 k1 k2 k3 k4 x1 x2 x3 x4) := ⟨H3.out.1.below hb1, H3.out.2.1.below hb1, H3.out.2.2.1.below hb1, NB.new hR, below_next H3.out.2.2.2 hb1⟩
  clear hR hW hB hb1 H3
  obtain ⟨a0, a1, a2⟩ := H4.out.x.cells
  obtain ⟨y0, y1, y2⟩ := H4.out.y.cells
  obtain ⟨p0, p1, p2⟩ := H4.out.p.cells
  obtain ⟨q0, q1, q2⟩ := H4.out.q.cells
  clear hf1 hf2 hf3 hf4
  have HSY := Lib.hid (fun (W : World) (hW : Below (w4.alloc (.cells #[.bool n4, .slice A4 l4 k4, .int .i64 x4] 25)).heap.size (w4.alloc (.cells #[.bool n4, .slice A4 l4 k4, .int .i64 x4] 25)) W) => sign_c 1074 w.heap.size (numV b) n2 A2 l2 k2 x2 W (H4.out.y.2.below hW))
  obtain ⟨sy, hsy⟩ : ∃ s, Int.sign (numV b) = s := ⟨_, rfl⟩
  obtain ⟨sv, hsv⟩ : ∃ s, Int.sign (numV f) = s := ⟨_, rfl⟩
  have HSB : Hid ((sy = 1 ∨ sy = -1) ∧ (sv = 1 ∨ sv = -1)) := ⟨by have := sign_in (numV b); omega, by have := sign_in (numV f); omega⟩
  have HSGY := Lib.hid hsy
  have HSGV := Lib.hid hsv
  rw [hsy] at hs1 HR1 HSY
  rw [hsv] at hs2 HR1 HR3
  clear hsy hsv
  have hy0 : (sy == 0) = false := by simpa using hs1
  have hv0 : (sv == 0) = false := by simpa using hs2
  go_wp2_with fail
  refine (HSY.out _ (Below.refl _ _)).mono ?_
  rintro e1 w5 ⟨rfl, hW⟩
  have H5 := Lib.hid (H4.out.below hW)
  clear hW H4 HSY a0 a1 a2 y0 y1 y2 p0 p1 p2 q0 q1 q2
  obtain ⟨q0, q1, q2⟩ := H5.out.q.cells
  have HSV := Lib.hid (fun (W : World) (hW : Below w5.heap.size w5 W) => sign_c 1074 w.heap.size (numV f) n4 A4 l4 k4 x4 W (H5.out.q.2.below hW))
  rw [HSGV.out] at HSV
  go_wp2_with fail
  refine (HSV.out _ (Below.refl _ _)).mono ?_
  rintro e1 w6 ⟨rfl, hW⟩
  have H6 := Lib.hid (H5.out.below hW)
  clear hW H5 HSV q0 q1 q2
  go_wp2_with fail
  refine (HDV1.out _).mono ?_
  rintro e1 w7 ⟨rfl, hW⟩
  have H7 := Lib.hid (H6.out.below hW)
  clear hW H6
  unfold fRet2
  go_wp2_with fail
  refine (HDV2.out _).mono ?_
  rintro e1 w8 ⟨rfl, hW⟩
  have H8 := Lib.hid (H7.out.below hW)
  clear hW H7
  unfold fRet2
  go_wp2_with fail
  refine (HSC1.out _).mono ?_
  rintro e1 w9 ⟨rfl, hW⟩
  have H9 := Lib.hid (H8.out.below hW)
  clear hW H8
  unfold fRet2
  go_wp2_with fail
  refine (HSC2.out _).mono ?_
  rintro e1 w10 ⟨rfl, hW⟩
  have H10 := Lib.hid (H9.out.below hW)
  clear hW H9
  unfold fRet2
  clear HDV1 HDV2 HSC1 HSC2 hs1 hs2
  obtain ⟨r1, hr1⟩ : ∃ r, Int.sign (numV a * numV f - numV e * numV b) = r := ⟨_, rfl⟩
  obtain ⟨r2, hr2⟩ : ∃ r, Int.sign (numV a * ((2 ^ 5126 : Nat) : Int) * ((2 ^ (K2 - 1074) : Nat) : Int) - numV e * ((2 ^ 5126 : Nat) : Int) * ((2 ^ (K1 - 1074) : Nat) : Int)) = r := ⟨_, rfl⟩
  obtain ⟨r3, hr3⟩ : ∃ r, Int.sign (numV a * ((2 ^ 5126 : Nat) : Int) * numV f - numV e * ((2 ^ K1 : Nat) : Int)) = r := ⟨_, rfl⟩
  have b1 := sign_in (numV a * numV f - numV e * numV b)
  have b3 := sign_in (numV a * ((2 ^ 5126 : Nat) : Int) * numV f - numV e * ((2 ^ K1 : Nat) : Int))
  rw [hr1] at HR1 b1
  rw [hr2] at HR2
  rw [hr3] at HR3 b3
  have hw1 : wrap64 (sy * sv) = sy * sv := wrap_one HSB.out.1 (by rcases HSB.out.2 with h | h <;> rw [h] <;> decide)
  have hw2 : wrap64 (sy * sv * r1) = sy * sv * r1 := wrap_one (by rcases HSB.out.1 with h | h <;> rcases HSB.out.2 with h' | h' <;> rw [h, h'] <;> decide) b1
  have hw3 : wrap64 (sv * r3) = sv * r3 := wrap_one HSB.out.2 b3
  have hw1i : IntKind.i64.wrap (sy * sv) = sy * sv := wrap_one' HSB.out.1 (by rcases HSB.out.2 with h | h <;> rw [h] <;> decide)
  have hw2i : IntKind.i64.wrap (sy * sv * r1) = sy * sv * r1 := wrap_one' (by rcases HSB.out.1 with h | h <;> rcases HSB.out.2 with h' | h' <;> rw [h, h'] <;> decide) b1
  have hw3i : IntKind.i64.wrap (sv * r3) = sv * r3 := wrap_one' HSB.out.2 b3
  obtain ⟨z1, hz1⟩ : ∃ z, sy * sv = z := ⟨_, rfl⟩
  obtain ⟨z2, hz2⟩ : ∃ z, z1 * r1 = z := ⟨_, rfl⟩
  obtain ⟨z3, hz3⟩ : ∃ z, sv * r3 = z := ⟨_, rfl⟩
  rw [hz1] at hw2 hw2i HR1
  rw [hz2] at HR1
  rw [hz3] at HR3
  have hw1' := hw1.trans hz1
  have hw2' := hw2.trans hz2
  have hw3' := hw3.trans hz3
  have hw1i' := hw1i.trans hz1
  have hw2i' := hw2i.trans hz2
  have hw3i' := hw3i.trans hz3
  clear hw1 hw2 hw3 hw1i hw2i hw3i hz1 hz2 hz3
  have HX1 := Lib.hid hr1
  have HX2 := Lib.hid hr2
  have HX3 := Lib.hid hr3
  clear hr1 hr2 hr3 b1 b3
  go_upto_region 12 with fail
  go_cut [31] (fun s wx => s = .int .i64 (z1) ∧ Hid (Four w wx w.heap.size w1.heap.size w2.heap.size w3.heap.size w4.heap.size (numV a) (numV b) (numV e) (numV f) n1 n2 n3 n4 A1 A2 A3 A4 l1 l2 l3 l4 k1 k2 k3 k4 x1 x2 x3 x4))
  case first =>
    obtain ⟨a0, a1, a2⟩ := H10.out.x.cells; obtain ⟨y0, y1, y2⟩ := H10.out.y.cells; obtain ⟨p0, p1, p2⟩ := H10.out.p.cells; obtain ⟨q0, q1, q2⟩ := H10.out.q.cells
    have HC1 := Lib.hid (fun (W : World) (hW : Below w10.heap.size w10 W) => sign_c 1074 w.heap.size (numV b) n2 A2 l2 k2 x2 W (H10.out.y.2.below hW)); rw [HSGY.out] at HC1
    go_region_held3 (fun W => W.cell? ⟨w1.heap.size, 0, none⟩ = some (.bool n1) ∧ W.cell? ⟨w1.heap.size, 1, none⟩ = some (.slice A1 l1 k1) ∧ W.cell? ⟨w1.heap.size, 2, none⟩ = some (.int .i64 x1) ∧ W.cell? ⟨w2.heap.size, 0, none⟩ = some (.bool n2) ∧ W.cell? ⟨w2.heap.size, 1, none⟩ = some (.slice A2 l2 k2) ∧ W.cell? ⟨w2.heap.size, 2, none⟩ = some (.int .i64 x2) ∧ W.cell? ⟨w3.heap.size, 0, none⟩ = some (.bool n3) ∧ W.cell? ⟨w3.heap.size, 1, none⟩ = some (.slice A3 l3 k3) ∧ W.cell? ⟨w3.heap.size, 2, none⟩ = some (.int .i64 x3) ∧ W.cell? ⟨w4.heap.size, 0, none⟩ = some (.bool n4) ∧ W.cell? ⟨w4.heap.size, 1, none⟩ = some (.slice A4 l4 k4) ∧ W.cell? ⟨w4.heap.size, 2, none⟩ = some (.int .i64 x4))
      (first | (refine keep12 a0 a1 a2 y0 y1 y2 p0 p1 p2 q0 q1 q2 ?_; (repeat (first | exact HB4.out | exact HB3.out | exact HB2.out | exact HB1.out | exact Below.refl _ _ | (with_reducible apply below_drewN) | (with_reducible apply Below.drew))); done))
      (first
        | (have _t := HC1; go_at_call 12; refine (HC1.out _ (by repeat (first | exact Below.refl _ _ | (with_reducible apply below_drewN) | (with_reducible apply Below.drew)))).mono ?_; rintro e v1 ⟨rfl, hW⟩; have HB1 : Hid (Below w10.heap.size w10 v1) := below_next (by repeat (first | exact HB4.out | exact HB3.out | exact HB2.out | exact HB1.out | exact Below.refl _ _ | (with_reducible apply below_drewN) | (with_reducible apply Below.drew))) hW; have E1 := Lib.hid (H10.out.below HB1.out); clear hW HC1; have HC2 := Lib.hid (fun (W : World) (hW : Below v1.heap.size v1 W) => sign_c 1074 w.heap.size (numV f) n4 A4 l4 k4 x4 W (E1.out.q.2.below hW)); rw [HSGV.out] at HC2)
        | (have _t := HC2; go_at_call 12; refine (HC2.out _ (by repeat (first | exact Below.refl _ _ | (with_reducible apply below_drewN) | (with_reducible apply Below.drew)))).mono ?_; rintro e v2 ⟨rfl, hW⟩; have HB2 : Hid (Below w10.heap.size w10 v2) := below_next (by repeat (first | exact HB4.out | exact HB3.out | exact HB2.out | exact HB1.out | exact Below.refl _ _ | (with_reducible apply below_drewN) | (with_reducible apply Below.drew))) hW; have E2 := Lib.hid (H10.out.below HB2.out); clear hW HC2))
    all_goals (
      go_wp2_with fail
      go_meet
      first | (with_reducible exact ⟨rfl, E2⟩) | exact ⟨congrArg (Value.int IntKind.i64) hw1i', E2⟩ | exact ⟨congrArg (Value.int IntKind.i64) hw1', E2⟩)
  case rest =>
    obtain ⟨rfl, hG1⟩ := hcut
    obtain ⟨u1, rfl⟩ : ∃ wo : World, wo = wc := ⟨_, rfl⟩
    have G1 := Lib.hid hG1.out
    clear hG1
    go_upto_region 13 with fail
    go_cut [32] (fun s wx => s = .int .i64 (z2) ∧ Hid (Four w wx w.heap.size w1.heap.size w2.heap.size w3.heap.size w4.heap.size (numV a) (numV b) (numV e) (numV f) n1 n2 n3 n4 A1 A2 A3 A4 l1 l2 l3 l4 k1 k2 k3 k4 x1 x2 x3 x4))
    case first =>
      obtain ⟨a0, a1, a2⟩ := G1.out.x.cells; obtain ⟨y0, y1, y2⟩ := G1.out.y.cells; obtain ⟨p0, p1, p2⟩ := G1.out.p.cells; obtain ⟨q0, q1, q2⟩ := G1.out.q.cells
      have HC1 := Lib.hid (fun (W : World) (hW : Below u1.heap.size u1 W) => times_c2 1074 1074 w.heap.size 2098 (numV a) (numV f) n1 n4 A1 A4 l1 l4 k1 k4 x1 x4 W (Nat.le_trans G1.out.bel.size hW.size) (G1.out.x.2.below hW) (G1.out.q.2.below hW) HBD.out.1 HBD.out.2.2.2 (by decide) (by decide) (by decide))
      go_region_held3 (fun W => W.cell? ⟨w1.heap.size, 0, none⟩ = some (.bool n1) ∧ W.cell? ⟨w1.heap.size, 1, none⟩ = some (.slice A1 l1 k1) ∧ W.cell? ⟨w1.heap.size, 2, none⟩ = some (.int .i64 x1) ∧ W.cell? ⟨w2.heap.size, 0, none⟩ = some (.bool n2) ∧ W.cell? ⟨w2.heap.size, 1, none⟩ = some (.slice A2 l2 k2) ∧ W.cell? ⟨w2.heap.size, 2, none⟩ = some (.int .i64 x2) ∧ W.cell? ⟨w3.heap.size, 0, none⟩ = some (.bool n3) ∧ W.cell? ⟨w3.heap.size, 1, none⟩ = some (.slice A3 l3 k3) ∧ W.cell? ⟨w3.heap.size, 2, none⟩ = some (.int .i64 x3) ∧ W.cell? ⟨w4.heap.size, 0, none⟩ = some (.bool n4) ∧ W.cell? ⟨w4.heap.size, 1, none⟩ = some (.slice A4 l4 k4) ∧ W.cell? ⟨w4.heap.size, 2, none⟩ = some (.int .i64 x4))
        (first | (refine keep12 a0 a1 a2 y0 y1 y2 p0 p1 p2 q0 q1 q2 ?_; (repeat (first | exact HB4.out | exact HB3.out | exact HB2.out | exact HB1.out | exact Below.refl _ _ | (with_reducible apply below_drewN) | (with_reducible apply Below.drew))); done))
        (first
          | (have _t := HC1; go_at_call 15; refine (HC1.out _ (by repeat (first | exact Below.refl _ _ | (with_reducible apply below_drewN) | (with_reducible apply Below.drew)))).mono ?_; rintro e v1 ⟨n5, A5, l5, k5, x5, rfl, hR, hW⟩; have HB1 : Hid (Below u1.heap.size u1 v1) := below_next (by repeat (first | exact HB4.out | exact HB3.out | exact HB2.out | exact HB1.out | exact Below.refl _ _ | (with_reducible apply below_drewN) | (with_reducible apply Below.drew))) hW; have E1 := Lib.hid (G1.out.below HB1.out); have R1 := Lib.hid hR; clear hR hW HC1; have HC2 := Lib.hid (fun (W : World) (hW : Below v1.heap.size v1 W) => times_c2 1074 1074 w.heap.size 2098 (numV e) (numV b) n3 n2 A3 A2 l3 l2 k3 k2 x3 x2 W (Nat.le_trans E1.out.bel.size hW.size) (E1.out.p.2.below hW) (E1.out.y.2.below hW) HBD.out.2.2.1 HBD.out.2.1 (by decide) (by decide) (by decide)))
          | (have _t := HC2; go_at_call 15; refine (HC2.out _ (by repeat (first | exact Below.refl _ _ | (with_reducible apply below_drewN) | (with_reducible apply Below.drew)))).mono ?_; rintro e v2 ⟨n6, A6, l6, k6, x6, rfl, hR, hW⟩; have HB2 : Hid (Below u1.heap.size u1 v2) := below_next (by repeat (first | exact HB4.out | exact HB3.out | exact HB2.out | exact HB1.out | exact Below.refl _ _ | (with_reducible apply below_drewN) | (with_reducible apply Below.drew))) hW; have E2 := Lib.hid (G1.out.below HB2.out); have R2 := Lib.hid hR; have R1 := Lib.hid (R1.out.below (Below.trans (by repeat (first | exact Below.refl _ _ | (with_reducible apply below_drewN) | (with_reducible apply Below.drew))) hW)); clear hR hW HC2; have HC3 := Lib.hid (fun (W : World) (hW : Below v2.heap.size v2 W) => cmp_c 2148 w.heap.size 5000 (numV a * numV f) (numV e * numV b) n5 n6 A5 A6 l5 l6 k5 k6 x5 x6 W (Nat.le_trans E2.out.bel.size hW.size) (R1.out.below hW) (R2.out.below hW) (prod_bd HBD.out.1 HBD.out.2.2.2) (prod_bd HBD.out.2.2.1 HBD.out.2.1) (by decide) (by decide)); rw [HX1.out] at HC3)
          | (have _t := HC3; go_at_call 14; refine (HC3.out _ (by repeat (first | exact Below.refl _ _ | (with_reducible apply below_drewN) | (with_reducible apply Below.drew)))).mono ?_; rintro e v3 ⟨rfl, hW⟩; have HB3 : Hid (Below u1.heap.size u1 v3) := below_next (by repeat (first | exact HB4.out | exact HB3.out | exact HB2.out | exact HB1.out | exact Below.refl _ _ | (with_reducible apply below_drewN) | (with_reducible apply Below.drew))) hW; have E3 := Lib.hid (G1.out.below HB3.out); clear hW HC3))
      all_goals (
        go_wp2_with fail
        go_meet
        first | (with_reducible exact ⟨rfl, E3⟩) | exact ⟨congrArg (Value.int IntKind.i64) hw2i', E3⟩ | exact ⟨congrArg (Value.int IntKind.i64) hw2', E3⟩)
    case rest =>
      obtain ⟨rfl, hG2⟩ := hcut
      obtain ⟨u2, rfl⟩ : ∃ wo : World, wo = wc := ⟨_, rfl⟩
      have G2 := Lib.hid hG2.out
      clear hG2
      go_upto_region 14 with fail
      go_cut [33] (fun s wx => s = .int .i64 (r2) ∧ Hid (Four w wx w.heap.size w1.heap.size w2.heap.size w3.heap.size w4.heap.size (numV a) (numV b) (numV e) (numV f) n1 n2 n3 n4 A1 A2 A3 A4 l1 l2 l3 l4 k1 k2 k3 k4 x1 x2 x3 x4))
      case first =>
        obtain ⟨a0, a1, a2⟩ := G2.out.x.cells; obtain ⟨y0, y1, y2⟩ := G2.out.y.cells; obtain ⟨p0, p1, p2⟩ := G2.out.p.cells; obtain ⟨q0, q1, q2⟩ := G2.out.q.cells
        have HC1 := Lib.hid (fun (W : World) (hW : Below u2.heap.size u2 W) => moved_c 6200 K1 w.heap.size 20000 n (numV a * ((2 ^ 5126 : Nat) : Int)) n1 A1 l1 k1 x1 W ((G2.out.x.2.below hW).raise 5126) HKK.out.1 HNM.out.1 (by decide) (mvb HBD.out.1) (by decide) HKB.out.1)
        go_region_held3 (fun W => W.cell? ⟨w1.heap.size, 0, none⟩ = some (.bool n1) ∧ W.cell? ⟨w1.heap.size, 1, none⟩ = some (.slice A1 l1 k1) ∧ W.cell? ⟨w1.heap.size, 2, none⟩ = some (.int .i64 x1) ∧ W.cell? ⟨w2.heap.size, 0, none⟩ = some (.bool n2) ∧ W.cell? ⟨w2.heap.size, 1, none⟩ = some (.slice A2 l2 k2) ∧ W.cell? ⟨w2.heap.size, 2, none⟩ = some (.int .i64 x2) ∧ W.cell? ⟨w3.heap.size, 0, none⟩ = some (.bool n3) ∧ W.cell? ⟨w3.heap.size, 1, none⟩ = some (.slice A3 l3 k3) ∧ W.cell? ⟨w3.heap.size, 2, none⟩ = some (.int .i64 x3) ∧ W.cell? ⟨w4.heap.size, 0, none⟩ = some (.bool n4) ∧ W.cell? ⟨w4.heap.size, 1, none⟩ = some (.slice A4 l4 k4) ∧ W.cell? ⟨w4.heap.size, 2, none⟩ = some (.int .i64 x4))
          (first | (refine keep12 a0 a1 a2 y0 y1 y2 p0 p1 p2 q0 q1 q2 ?_; (repeat (first | exact HB4.out | exact HB3.out | exact HB2.out | exact HB1.out | exact Below.refl _ _ | (with_reducible apply below_drewN) | (with_reducible apply Below.drew))); done))
          (first
            | (have _t := HC1; go_at_call 25; refine (HC1.out _ (by repeat (first | exact Below.refl _ _ | (with_reducible apply below_drewN) | (with_reducible apply Below.drew)))).mono ?_; rintro e v1 ⟨n5, A5, l5, k5, x5, rfl, hR, hW⟩; have HB1 : Hid (Below u2.heap.size u2 v1) := below_next (by repeat (first | exact HB4.out | exact HB3.out | exact HB2.out | exact HB1.out | exact Below.refl _ _ | (with_reducible apply below_drewN) | (with_reducible apply Below.drew))) hW; have E1 := Lib.hid (G2.out.below HB1.out); have R1 := Lib.hid hR; clear hR hW HC1; have HC2 := Lib.hid (fun (W : World) (hW : Below v1.heap.size v1 W) => moved_c 6200 K2 w.heap.size 20000 m (numV e * ((2 ^ 5126 : Nat) : Int)) n3 A3 l3 k3 x3 W ((E1.out.p.2.below hW).raise 5126) HKK.out.2 HNM.out.2 (by decide) (mvb HBD.out.2.2.1) (by decide) HKB.out.2))
            | (have _t := HC2; go_at_call 25; refine (HC2.out _ (by repeat (first | exact Below.refl _ _ | (with_reducible apply below_drewN) | (with_reducible apply Below.drew)))).mono ?_; rintro e v2 ⟨n6, A6, l6, k6, x6, rfl, hR, hW⟩; have HB2 : Hid (Below u2.heap.size u2 v2) := below_next (by repeat (first | exact HB4.out | exact HB3.out | exact HB2.out | exact HB1.out | exact Below.refl _ _ | (with_reducible apply below_drewN) | (with_reducible apply Below.drew))) hW; have E2 := Lib.hid (G2.out.below HB2.out); have R2 := Lib.hid hR; have R1 := Lib.hid (R1.out.below (Below.trans (by repeat (first | exact Below.refl _ _ | (with_reducible apply below_drewN) | (with_reducible apply Below.drew))) hW)); clear hR hW HC2; have HC3 := Lib.hid (fun (W : World) (hW : Below v2.heap.size v2 W) => cmp_c (K1 + (K2 - 1074)) w.heap.size 20000 (numV a * ((2 ^ 5126 : Nat) : Int) * ((2 ^ (K2 - 1074) : Nat) : Int)) (numV e * ((2 ^ 5126 : Nat) : Int) * ((2 ^ (K1 - 1074) : Nat) : Int)) n5 n6 A5 A6 l5 l6 k5 k6 x5 x6 W (Nat.le_trans E2.out.bel.size hW.size) ((R1.out.below hW).raise (K2 - 1074)) (((R2.out.below hW).raise (K1 - 1074)).cast (by have := HKR.out; omega)) (mvb2 HBD.out.1 (by have := HKR.out; omega)) (mvb2 HBD.out.2.2.1 (by have := HKR.out; omega)) (by decide) (by have := HKR.out; omega)); rw [HX2.out] at HC3)
            | (have _t := HC3; go_at_call 14; refine (HC3.out _ (by repeat (first | exact Below.refl _ _ | (with_reducible apply below_drewN) | (with_reducible apply Below.drew)))).mono ?_; rintro e v3 ⟨rfl, hW⟩; have HB3 : Hid (Below u2.heap.size u2 v3) := below_next (by repeat (first | exact HB4.out | exact HB3.out | exact HB2.out | exact HB1.out | exact Below.refl _ _ | (with_reducible apply below_drewN) | (with_reducible apply Below.drew))) hW; have E3 := Lib.hid (G2.out.below HB3.out); clear hW HC3))
        all_goals (
          go_wp2_with fail
          go_meet
          first | (with_reducible exact ⟨rfl, E3⟩) | exact ⟨congrArg (Value.int IntKind.i64) hw1i', E3⟩ | exact ⟨congrArg (Value.int IntKind.i64) hw1', E3⟩)
      case rest =>
        obtain ⟨rfl, hG3⟩ := hcut
        obtain ⟨u3, rfl⟩ : ∃ wo : World, wo = wc := ⟨_, rfl⟩
        have G3 := Lib.hid hG3.out
        clear hG3
        go_upto_region 15 with fail
        go_cut [34] (fun s wx => s = .int .i64 (z3) ∧ Hid (Four w wx w.heap.size w1.heap.size w2.heap.size w3.heap.size w4.heap.size (numV a) (numV b) (numV e) (numV f) n1 n2 n3 n4 A1 A2 A3 A4 l1 l2 l3 l4 k1 k2 k3 k4 x1 x2 x3 x4))
        case first =>
          obtain ⟨a0, a1, a2⟩ := G3.out.x.cells; obtain ⟨y0, y1, y2⟩ := G3.out.y.cells; obtain ⟨p0, p1, p2⟩ := G3.out.p.cells; obtain ⟨q0, q1, q2⟩ := G3.out.q.cells
          have HC1 := Lib.hid (fun (W : World) (hW : Below u3.heap.size u3 W) => sign_c 1074 w.heap.size (numV f) n4 A4 l4 k4 x4 W (G3.out.q.2.below hW)); rw [HSGV.out] at HC1
          go_region_held3 (fun W => W.cell? ⟨w1.heap.size, 0, none⟩ = some (.bool n1) ∧ W.cell? ⟨w1.heap.size, 1, none⟩ = some (.slice A1 l1 k1) ∧ W.cell? ⟨w1.heap.size, 2, none⟩ = some (.int .i64 x1) ∧ W.cell? ⟨w2.heap.size, 0, none⟩ = some (.bool n2) ∧ W.cell? ⟨w2.heap.size, 1, none⟩ = some (.slice A2 l2 k2) ∧ W.cell? ⟨w2.heap.size, 2, none⟩ = some (.int .i64 x2) ∧ W.cell? ⟨w3.heap.size, 0, none⟩ = some (.bool n3) ∧ W.cell? ⟨w3.heap.size, 1, none⟩ = some (.slice A3 l3 k3) ∧ W.cell? ⟨w3.heap.size, 2, none⟩ = some (.int .i64 x3) ∧ W.cell? ⟨w4.heap.size, 0, none⟩ = some (.bool n4) ∧ W.cell? ⟨w4.heap.size, 1, none⟩ = some (.slice A4 l4 k4) ∧ W.cell? ⟨w4.heap.size, 2, none⟩ = some (.int .i64 x4))
            (first | (refine keep12 a0 a1 a2 y0 y1 y2 p0 p1 p2 q0 q1 q2 ?_; (repeat (first | exact HB4.out | exact HB3.out | exact HB2.out | exact HB1.out | exact Below.refl _ _ | (with_reducible apply below_drewN) | (with_reducible apply Below.drew))); done))
            (first
              | (have _t := HC1; go_at_call 12; refine (HC1.out _ (by repeat (first | exact Below.refl _ _ | (with_reducible apply below_drewN) | (with_reducible apply Below.drew)))).mono ?_; rintro e v1 ⟨rfl, hW⟩; have HB1 : Hid (Below u3.heap.size u3 v1) := below_next (by repeat (first | exact HB4.out | exact HB3.out | exact HB2.out | exact HB1.out | exact Below.refl _ _ | (with_reducible apply below_drewN) | (with_reducible apply Below.drew))) hW; have E1 := Lib.hid (G3.out.below HB1.out); clear hW HC1; have HC2 := Lib.hid (fun (W : World) (hW : Below v1.heap.size v1 W) => moved_c 6200 K1 w.heap.size 20000 n (numV a * ((2 ^ 5126 : Nat) : Int)) n1 A1 l1 k1 x1 W ((E1.out.x.2.below hW).raise 5126) HKK.out.1 HNM.out.1 (by decide) (mvb HBD.out.1) (by decide) HKB.out.1))
              | (have _t := HC2; go_at_call 25; refine (HC2.out _ (by repeat (first | exact Below.refl _ _ | (with_reducible apply below_drewN) | (with_reducible apply Below.drew)))).mono ?_; rintro e v2 ⟨n5, A5, l5, k5, x5, rfl, hR, hW⟩; have HB2 : Hid (Below u3.heap.size u3 v2) := below_next (by repeat (first | exact HB4.out | exact HB3.out | exact HB2.out | exact HB1.out | exact Below.refl _ _ | (with_reducible apply below_drewN) | (with_reducible apply Below.drew))) hW; have E2 := Lib.hid (G3.out.below HB2.out); have R1 := Lib.hid hR; clear hR hW HC2; have HC3 := Lib.hid (fun (W : World) (hW : Below v2.heap.size v2 W) => times_c2 K1 1074 w.heap.size 20000 (numV a * ((2 ^ 5126 : Nat) : Int)) (numV f) n5 n4 A5 A4 l5 l4 k5 k4 x5 x4 W (Nat.le_trans E2.out.bel.size hW.size) (R1.out.below hW) (E2.out.q.2.below hW) (mvb HBD.out.1) (small_bd HBD.out.2.2.2) (by decide) HKB.out.1 (by decide)))
              | (have _t := HC3; go_at_call 15; refine (HC3.out _ (by repeat (first | exact Below.refl _ _ | (with_reducible apply below_drewN) | (with_reducible apply Below.drew)))).mono ?_; rintro e v3 ⟨n6, A6, l6, k6, x6, rfl, hR, hW⟩; have HB3 : Hid (Below u3.heap.size u3 v3) := below_next (by repeat (first | exact HB4.out | exact HB3.out | exact HB2.out | exact HB1.out | exact Below.refl _ _ | (with_reducible apply below_drewN) | (with_reducible apply Below.drew))) hW; have E3 := Lib.hid (G3.out.below HB3.out); have R2 := Lib.hid hR; clear hR hW HC3; have HC4 := Lib.hid (fun (W : World) (hW : Below v3.heap.size v3 W) => cmp_c (K1 + 1074) w.heap.size 20000 (numV a * ((2 ^ 5126 : Nat) : Int) * numV f) (numV e * ((2 ^ K1 : Nat) : Int)) n6 n3 A6 A3 l6 l3 k6 k3 x6 x3 W (Nat.le_trans E3.out.bel.size hW.size) (R2.out.below hW) (((E3.out.p.2.below hW).raise K1).cast (Nat.add_comm _ _)) (mvb3 HBD.out.1 HBD.out.2.2.2) (mvb4 HBD.out.2.2.1 (by have := HKR.out; omega)) (by decide) (by have := HKR.out; omega)); rw [HX3.out] at HC4)
              | (have _t := HC4; go_at_call 14; refine (HC4.out _ (by repeat (first | exact Below.refl _ _ | (with_reducible apply below_drewN) | (with_reducible apply Below.drew)))).mono ?_; rintro e v4 ⟨rfl, hW⟩; have HB4 : Hid (Below u3.heap.size u3 v4) := below_next (by repeat (first | exact HB4.out | exact HB3.out | exact HB2.out | exact HB1.out | exact Below.refl _ _ | (with_reducible apply below_drewN) | (with_reducible apply Below.drew))) hW; have E4 := Lib.hid (G3.out.below HB4.out); clear hW HC4))
          all_goals (
            go_wp2_with fail
            go_meet
            first | (with_reducible exact ⟨rfl, E4⟩) | exact ⟨congrArg (Value.int IntKind.i64) hw3i', E4⟩ | exact ⟨congrArg (Value.int IntKind.i64) hw3', E4⟩)
        case rest =>
          obtain ⟨rfl, hG4⟩ := hcut
          obtain ⟨u4, rfl⟩ : ∃ wo : World, wo = wc := ⟨_, rfl⟩
          have G4 := Lib.hid hG4.out
          clear hG4
          have HO1 := Lib.hid (fun W => orders_calls z2 o1 o2 W)
          have HO2 := Lib.hid (fun W => orders_calls r2 o3 o4 W)
          have HO3 := Lib.hid (fun W => orders_calls z3 o3 o2 W)
          rw [HR1.out] at HO1
          rw [HR2.out] at HO2
          rw [HR3.out] at HO3
          go_wp2_with fail
          refine (HO1.out _).mono ?_
          rintro e1 w' ⟨rfl, rfl⟩
          go_wp2_with fail
          refine (HO2.out _).mono ?_
          rintro e1 w' ⟨rfl, rfl⟩
          go_wp2_with fail
          refine (HO3.out _).mono ?_
          rintro e1 w' ⟨rfl, rfl⟩
          go_wp2_with fail
          refine (started_calls _).mono ?_
          rintro e1 wz ⟨rfl, hW⟩
          have HZ := Lib.hid (below_next G4.out.bel hW)
          clear hW
          go_wp2
          go_ret
          exact ⟨rfl, HZ.out⟩
theorem orders_walk (d n0 m0 : Int) (a b e f : Nat) (ha : a < 18446744073709551616) (hb : b < 18446744073709551616) (he : e < 18446744073709551616) (hf : f < 18446744073709551616) (w : World) :
    Calls Tryz.prog 5 #[.int .i64 d, .float .f64 a, .float .f64 b, .float .f64 e, .float .f64 f, .int .i64 n0, .int .i64 m0] w fun e w' => e = .returned (.bool true) ∧ Below w.heap.size w w' := by
  rcases hfl : (fin a && fin b && fin e && fin f) with _ | _
  · exact orders_bad d n0 m0 a b e f ha hb he hf _ _ _ _ rfl rfl rfl rfl (.inl hfl) w
  · by_cases h1 : Int.sign (numV b) = 0
    · exact orders_bad d n0 m0 a b e f ha hb he hf _ _ _ _ rfl rfl rfl rfl (.inr (.inl h1)) w
    · by_cases h2 : Int.sign (numV f) = 0
      · exact orders_bad d n0 m0 a b e f ha hb he hf _ _ _ _ rfl rfl rfl rfl (.inr (.inr h2)) w
      · simp only [Bool.and_eq_true] at hfl
        exact orders_good d n0 m0 a b e f ha hb he hf hfl.1.1.1 hfl.1.1.2 hfl.1.2 hfl.2 h1 h2 w
end Go.Proofs.YtogjodnmegafdaaGreatFmt
