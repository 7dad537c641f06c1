/- Walks and plain laws of this seat's functions, part 35: Q15. -/
import Derived.Test.YtfgdmiigmcnmpaaGreatFmtJ34
set_option linter.unusedVariables false
set_option linter.unusedSimpArgs false
namespace Go.Proofs.YtfgdmiigmcnmpaaGreatFmt
open Go.RowKit
attribute [local go_sem ↓] Go.wp_at_zero Go.wp_at_succ

/-! ### ref2.Over -/
theorem cell_keep' {w W : World} {q : Addr} {u : Value} (hW : Below w.heap.size w W) (h : w.cell? q = some u) : W.cell? q = some u := by
  have hlt : q.block < w.heap.size := by
    unfold World.cell? at h
    cases hh : w.heap[q.block]? with
    | none => rw [hh] at h; simp at h
    | some o => exact (Array.getElem?_eq_some_iff.1 hh).1
  exact (World.cell?_of_block (hW.block _ hlt)).trans h
theorem keep6 {w W : World} {q1 q2 q3 q4 q5 q6 : Addr} {u1 u2 u3 u4 u5 u6 : Value} (h1 : w.cell? q1 = some u1) (h2 : w.cell? q2 = some u2) (h3 : w.cell? q3 = some u3) (h4 : w.cell? q4 = some u4) (h5 : w.cell? q5 = some u5) (h6 : w.cell? q6 = some u6) (hW : Below w.heap.size w W) :
    W.cell? q1 = some u1 ∧ W.cell? q2 = some u2 ∧ W.cell? q3 = some u3 ∧ W.cell? q4 = some u4 ∧ W.cell? q5 = some u5 ∧ W.cell? q6 = some u6 := ⟨cell_keep' hW h1, cell_keep' hW h2, cell_keep' hW h3, cell_keep' hW h4, cell_keep' hW h5, cell_keep' hW h6⟩
/-- what lies in memory behind region 6: x, y, their sizes -/
structure OvW (w0 w : World) (base b4 b5 b8 b9 : Nat) (X Y : Int) (nx ny : Bool) (A1 A2 : Option Addr) (l1 l2 k1 k2 : Nat) (x1 x2 : Int) : Prop where
  x : Blk w b4 25 [.bool nx, .slice A1 l1 k1, .int .i64 x1]
  y : Blk w b5 25 [.bool ny, .slice A2 l2 k2, .int .i64 x2]
  a : Blk w b8 25 [.bool false, .slice A1 l1 k1, .int .i64 x1]
  b : Blk w b9 25 [.bool false, .slice A2 l2 k2, .int .i64 x2]
  A : NumC 1074 w base (X.natAbs : Int) false A1 l1 k1 x1
  B : NumC 1074 w base (Y.natAbs : Int) false A2 l2 k2 x2
  bel : Below w0.heap.size w0 w
theorem OvW.below {w0 w w' : World} {base b4 b5 b8 b9 : Nat} {X Y : Int} {nx ny : Bool} {A1 A2 : Option Addr} {l1 l2 k1 k2 : Nat} {x1 x2 : Int} (h : OvW w0 w base b4 b5 b8 b9 X Y nx ny A1 A2 l1 l2 k1 k2 x1 x2) (hb : Below w.heap.size w w') : OvW w0 w' base b4 b5 b8 b9 X Y nx ny A1 A2 l1 l2 k1 k2 x1 x2 := ⟨h.x.below' hb, h.y.below' hb, h.a.below' hb, h.b.below' hb, h.A.below hb, h.B.below hb, below_next h.bel hb⟩
theorem two_boxes (w : World) (nx ny : Bool) (A1 A2 : Option Addr) (l1 l2 k1 k2 : Nat) (x1 x2 : Int) {W : World} (hW : (w.alloc (.cells #[.bool nx, .slice A1 l1 k1, .int .i64 x1] 25)).alloc (.cells #[.bool ny, .slice A2 l2 k2, .int .i64 x2] 25) = W) :
    Blk W w.heap.size 25 [.bool nx, .slice A1 l1 k1, .int .i64 x1] ∧ Blk W (w.heap.size + 1) 25 [.bool ny, .slice A2 l2 k2, .int .i64 x2] ∧ Below w.heap.size w W := by
  have h2 := num_blk (w.alloc (.cells #[.bool nx, .slice A1 l1 k1, .int .i64 x1] 25)) ny A2 l2 k2 x2
  subst hW
  refine ⟨(num_blk w nx A1 l1 k1 x1).alloc _, ?_, below_new (below_new (Below.refl _ _) _) _⟩
  simpa using h2
set_option exponentiation.threshold 30000 in
theorem ov_cast {K K' : Nat} {w : World} {base : Nat} {X : Int} {neg : Bool} {A : Option Addr} {n c : Nat} {x : Int} (h : NumC K w base X neg A n c x) (e : K = K') : NumC K' w base X neg A n c x := e ▸ h
set_option exponentiation.threshold 30000 in
theorem ov_cmp (K base L : Nat) (X Y : Int) (n1 n2 : Bool) (A1 A2 : Option Addr) (l1 l2 c1 c2 : Nat) (x1 x2 : Int) (w : World) (hb : base ≤ w.heap.size) (hx : NumC K w base X n1 A1 l1 c1 x1) (hy : NumC K w base Y n2 A2 l2 c2 x2) (hX : X.natAbs < 2 ^ L) (hY : Y.natAbs < 2 ^ L) (hL : L ≤ 1073741824) (hK : K ≤ 1073741824) :
    Calls Tryz.prog 12 #[.agg #[.bool n1, .slice A1 l1 c1, .int .i64 x1], .agg #[.bool n2, .slice A2 l2 c2, .int .i64 x2]] w fun e w' => e = .returned (.int .i64 (Int.sign (X - Y))) ∧ Below w.heap.size w w' := cmp_num K base L X Y _ _ w hb hx hy hX hY hL hK
set_option exponentiation.threshold 30000 in
theorem pw_bd {a L j M : Nat} (h : a < 2 ^ L) (hM : L + j ≤ M) : a * 2 ^ j < 2 ^ M := by
  have h1 := Nat.mul_lt_mul_of_pos_right h (Nat.pow_pos (n := j) (a := 2) (by decide))
  rw [← Nat.pow_add] at h1
  exact Nat.lt_of_lt_of_le h1 (Nat.pow_le_pow_right (by decide) hM)
set_option exponentiation.threshold 30000 in
theorem ov_abs (a j : Nat) : ((a : Int) * ((2 ^ j : Nat) : Int)).natAbs = a * 2 ^ j := by rw [Int.natAbs_mul, Int.natAbs_natCast, Int.natAbs_natCast]
set_option exponentiation.threshold 30000 in
theorem ov_bd1 {y : Nat} (h : y < 2 ^ 2098) : ((y : Int) * ((2 ^ 3000 : Nat) : Int)).natAbs < 2 ^ 20000 := by
  rw [ov_abs y 3000]
  have h1 := pw_bd (a := y) (L := 2098) (j := 3000) (M := 20000) h (Nat.le_of_ble_eq_true rfl)
  exact h1
set_option exponentiation.threshold 30000 in
theorem ov_bd2 {x m : Nat} (h : x < 2 ^ 2098) (hm : m ≤ 9000) : ((x : Int) * ((2 ^ m : Nat) : Int)).natAbs < 2 ^ 20000 := by
  rw [ov_abs x m]
  have h1 := pw_bd (a := x) (L := 2098) (j := m) (M := 20000) h (by omega)
  exact h1
set_option exponentiation.threshold 30000 in
theorem ov_bd5 {y j : Nat} (h : y < 2 ^ 2098) (hj : j ≤ 2098) : ((y : Int) * ((2 ^ 3000 : Nat) : Int) * ((2 ^ j : Nat) : Int)).natAbs < 2 ^ 20000 := by
  rw [Int.natAbs_mul, ov_abs y 3000, Int.natAbs_natCast]
  have h1 := pw_bd (a := y) (L := 2098) (j := 3000) (M := 5098) h (by omega)
  exact pw_bd (L := 5098) (j := j) (M := 20000) h1 (by omega)
theorem ov_sgn {A B a b P : Nat} (hp : 0 < P) : decide (Int.sign ((A : Int) * ((2 ^ b * P : Nat) : Int) - (B : Int) * (P : Int) * ((2 ^ a : Nat) : Int)) < 0) = decide (A * 2 ^ b < B * 2 ^ a) := by
  have e1 : (A : Int) * ((2 ^ b * P : Nat) : Int) = ((A * 2 ^ b * P : Nat) : Int) := by rw [Nat.mul_assoc, Int.natCast_mul A]
  have e2 : (B : Int) * (P : Int) * ((2 ^ a : Nat) : Int) = ((B * 2 ^ a * P : Nat) : Int) := by rw [Int.natCast_mul, Int.natCast_mul, Int.mul_right_comm]
  rw [e1, e2]
  have h : A * 2 ^ b < B * 2 ^ a ↔ A * 2 ^ b * P < B * 2 ^ a * P := ⟨fun h => Nat.mul_lt_mul_of_pos_right h hp, fun h => Nat.lt_of_mul_lt_mul_right h⟩
  rw [Bool.eq_iff_iff, decide_eq_true_eq, decide_eq_true_eq, h]
  generalize A * 2 ^ b * P = x
  generalize B * 2 ^ a * P = y
  rcases Int.lt_trichotomy ((x : Int) - (y : Int)) 0 with h | h | h
  · rw [Int.sign_eq_neg_one_of_neg h]; omega
  · rw [h]; show ((0 : Int) < 0) ↔ _; omega
  · rw [Int.sign_eq_one_of_pos h]; omega
set_option exponentiation.threshold 30000 in
theorem ov_sign (A B a b j P : Nat) (hj : b + 3000 = j) (hP : 2 ^ 3000 = P) : decide (Int.sign ((A : Int) * ((2 ^ j : Nat) : Int) - (B : Int) * (P : Int) * ((2 ^ a : Nat) : Int)) < 0) = decide (A * 2 ^ b < B * 2 ^ a) := by
  subst hj
  rw [Nat.pow_add, hP]
  exact ov_sgn (by rw [← hP]; exact Nat.pow_pos (by decide))
set_option exponentiation.threshold 30000 in
theorem ov_cmp2 {A B base K1 j1 a P : Nat} {n5 : Bool} {A1 A5 : Option Addr} {l1 l5 k1 m5 : Nat} {x1 x5 : Int} {v : World} (hP : 2 ^ 3000 = P) (hb : base ≤ v.heap.size) (hA : NumC 1074 v base (A : Int) false A1 l1 k1 x1) (hR : NumC K1 v base ((B : Int) * (P : Int)) n5 A5 l5 m5 x5) (hK : 1074 + j1 = K1 + a) (hj : j1 ≤ 9000) (ha : a ≤ 2098) (hXA : A < 2 ^ 2098) (hYB : B < 2 ^ 2098) (W : World) (hW : Below v.heap.size v W) :
    Calls Tryz.prog 12 #[.agg #[.bool false, .slice A1 l1 k1, .int .i64 x1], .agg #[.bool n5, .slice A5 l5 m5, .int .i64 x5]] W fun e w' => e = .returned (.int .i64 (Int.sign ((A : Int) * ((2 ^ j1 : Nat) : Int) - (B : Int) * (P : Int) * ((2 ^ a : Nat) : Int)))) ∧ Below W.heap.size W w' := by
  have h1 : NumC (K1 + a) W base ((A : Int) * ((2 ^ j1 : Nat) : Int)) false A1 l1 k1 x1 := ov_cast ((hA.below hW).raise j1) hK
  have h2 : NumC (K1 + a) W base ((B : Int) * (P : Int) * ((2 ^ a : Nat) : Int)) n5 A5 l5 m5 x5 := (hR.below hW).raise a
  refine ov_cmp (K1 + a) base 20000 _ _ false n5 A1 A5 l1 l5 k1 m5 x1 x5 W (Nat.le_trans hb hW.size) h1 h2 (ov_bd2 hXA hj) ?_ (by decide) (by omega)
  rw [← hP]
  exact ov_bd5 hYB ha
set_option exponentiation.threshold 30000 in
theorem ov_cmp3 {A B base K1 j1 a b P : Nat} {q n5 : Bool} {A1 A5 : Option Addr} {l1 l5 k1 m5 : Nat} {x1 x5 : Int} {v : World} (hP : 2 ^ 3000 = P) (hq : decide (A * 2 ^ b < B * 2 ^ a) = q) (hjb : b + 3000 = j1) (hb : base ≤ v.heap.size) (hA : NumC 1074 v base (A : Int) false A1 l1 k1 x1) (hR : NumC K1 v base ((B : Int) * (P : Int)) n5 A5 l5 m5 x5) (hK : 1074 + j1 = K1 + a) (hj : j1 ≤ 9000) (ha : a ≤ 2098) (hXA : A < 2 ^ 2098) (hYB : B < 2 ^ 2098) :
    ∃ c : Int, decide (c < 0) = q ∧ ∀ W, Below v.heap.size v W → Calls Tryz.prog 12 #[.agg #[.bool false, .slice A1 l1 k1, .int .i64 x1], .agg #[.bool n5, .slice A5 l5 m5, .int .i64 x5]] W fun e w' => e = .returned (.int .i64 c) ∧ Below W.heap.size W w' :=
  ⟨_, (ov_sign A B a b j1 P hjb hP).trans hq, fun W hW => ov_cmp2 hP hb hA hR hK hj ha hXA hYB W hW⟩
set_option exponentiation.threshold 30000 in
theorem ov_part {A B base K2 P Q3 : Nat} {E : Int} {n5 : Bool} {A1 A5 : Option Addr} {l1 l5 k1 m5 : Nat} {x1 x5 : Int} {v : World} (hP : 2 ^ 3000 = P) (hQ3 : 2 ^ 4075 = Q3) (hE : eQ A B = E) (hEb : -1074 ≤ E ∧ E ≤ 3000) (hK2 : (K2 : Int) = ((4074 : Nat) : Int) - (E - 1)) (hb : base ≤ v.heap.size) (hA : NumC 1074 v base (A : Int) false A1 l1 k1 x1) (hR : NumC K2 v base ((B : Int) * (P : Int)) n5 A5 l5 m5 x5) (hA0 : A ≠ 0) (hB0 : B ≠ 0) (hXA : A < 2 ^ 2098) (hYB : B < 2 ^ 2098) :
    n5 = false ∧ ∀ W, Below v.heap.size v W → Calls Tryz.prog 106 #[.agg #[.bool false, .slice A1 l1 k1, .int .i64 x1], .agg #[.bool n5, .slice A5 l5 m5, .int .i64 x5]] W fun r w' => ∃ v', r = .returned (.tuple #[.agg #[.bool false, v', .int .i64 0], .bool (restQ A B)]) ∧ mRd.R w' base (hQ A B) [v'] ∧ Below W.heap.size W w' := by
  have hPp : 0 < P := by rw [← hP]; exact Nat.pow_pos (by decide)
  have hQp : 0 < Q3 := by rw [← hQ3]; exact Nat.pow_pos (by decide)
  have hBP : (B : Int) * (P : Int) = ((B * P : Nat) : Int) := (Int.natCast_mul _ _).symm
  have hBP0 : B * P ≠ 0 := Nat.mul_ne_zero hB0 (by omega)
  have hn : n5 = false := by
    have := hR.sign (by rw [hBP]; omega)
    rw [this, hBP]; exact decide_eq_false (by omega)
  subst hn
  refine ⟨rfl, fun W hW => ?_⟩
  obtain ⟨j2, hj2⟩ : ∃ j : Nat, (j : Int) = 1074 + E := ⟨(1074 + E).toNat, by omega⟩
  have h1 := (hA.below hW).raise 4075
  rw [hQ3, ← Int.natCast_mul] at h1
  have h2 := (hR.below hW).raise j2
  rw [hBP, ← Int.natCast_mul] at h2
  have h1' := ov_cast h1 (show 1074 + 4075 = K2 + j2 by omega)
  have hs := hQ_scale A B 3000
  have e1 : numQ (1075 + 3000) A = A * Q3 := by unfold numQ; rw [← hQ3]
  have e2 : denQ (1075 + 3000) A B = B * P * 2 ^ j2 := by
    unfold denQ
    rw [hE, show (E - 1 + ((1075 + 3000 : Nat) : Int)).toNat = 3000 + j2 from by omega, Nat.pow_add, hP, Nat.mul_assoc]
  rw [e1, e2] at hs
  rw [hs.1, hs.2]
  have b1 : A * Q3 < 2 ^ 20000 := by
    rw [← hQ3]
    have := pw_bd (a := A) (L := 2098) (j := 4075) (M := 20000) hXA (Nat.le_of_ble_eq_true rfl)
    exact this
  have b2 : B * P * 2 ^ j2 < 2 ^ 20000 := by
    have h3 := pw_bd (a := B) (L := 2098) (j := 3000) (M := 5098) hYB (Nat.le_of_ble_eq_true rfl)
    rw [hP] at h3
    have := pw_bd (a := B * P) (L := 5098) (j := j2) (M := 20000) h3 (by omega)
    exact this
  exact part_num (K2 + j2) base 20000 (A * Q3) (B * P * 2 ^ j2) A1 A5 l1 l5 k1 m5 x1 x5 W (Nat.le_trans hb hW.size) h1' h2 (Nat.mul_ne_zero hA0 (by omega)) (Nat.mul_ne_zero hBP0 (Nat.ne_of_gt (Nat.pow_pos (by decide)))) b1 b2 (by decide)
/-- what lies in memory behind region 11 -/
structure OvE (w0 w : World) (base b4 b5 b12 h : Nat) (nx ny : Bool) (A1 A2 C : Option Addr) (l1 l2 k1 k2 n cc : Nat) (x1 x2 : Int) : Prop where
  x : Blk w b4 25 [.bool nx, .slice A1 l1 k1, .int .i64 x1]
  y : Blk w b5 25 [.bool ny, .slice A2 l2 k2, .int .i64 x2]
  z : Blk w b12 25 [.bool false, .slice C n cc, .int .i64 0]
  m : mRd.R w base h [.slice C n cc]
  bel : Below w0.heap.size w0 w
theorem ove_new {w0 w : World} {base b4 b5 b8 b9 h : Nat} {X Y : Int} {nx ny : Bool} {A1 A2 C : Option Addr} {l1 l2 k1 k2 n cc : Nat} {x1 x2 : Int} (E : OvW w0 w base b4 b5 b8 b9 X Y nx ny A1 A2 l1 l2 k1 k2 x1 x2) (m : mRd.R w base h [.slice C n cc]) :
    OvE w0 (w.alloc (.cells #[.bool false, .slice C n cc, .int .i64 0] 25)) base b4 b5 w.heap.size h nx ny A1 A2 C l1 l2 k1 k2 n cc x1 x2 :=
  ⟨E.x.alloc _, E.y.alloc _, num_blk w false C n cc 0, mRd.below m (below_new (Below.refl _ _) _), below_next E.bel (below_new (Below.refl _ _) _)⟩
theorem ove_set {w0 w : World} {base b4 b5 b8 b9 b12 h : Nat} {X Y : Int} {nx ny : Bool} {A1 A2 C : Option Addr} {l1 l2 k1 k2 n cc : Nat} {x1 x2 : Int} (E : OvW w0 w base b4 b5 b8 b9 X Y nx ny A1 A2 l1 l2 k1 k2 x1 x2) (m : mRd.R w base h [.slice C n cc]) (hz : Blk w b12 25 [.bool false, .slice none 0 0, .int .i64 0]) (h4 : b4 ≠ b12) (h5 : b5 ≠ b12) (hB : base ≤ b12) (h0 : w0.heap.size ≤ b12) :
    OvE w0 (((w.setCell ⟨b12, 0, none⟩ (.bool false)).setCell ⟨b12, 1, none⟩ (.slice C n cc)).setCell ⟨b12, 2, none⟩ (.int .i64 0)) base b4 b5 b12 h nx ny A1 A2 C l1 l2 k1 k2 n cc x1 x2 := by
  have nt : ∀ {w : World} {cs : List Value}, Blk w b12 25 cs → NT w 56 b12 := fun hb => ⟨25, _, by decide, hb⟩
  exact ⟨((E.x.far (p := ⟨b12, 0, none⟩) h4 _).far (p := ⟨b12, 1, none⟩) h4 _).far (p := ⟨b12, 2, none⟩) h4 _, ((E.y.far (p := ⟨b12, 0, none⟩) h5 _).far (p := ⟨b12, 1, none⟩) h5 _).far (p := ⟨b12, 2, none⟩) h5 _, ((hz.set 0 _).set 1 _).set 2 _,
    mRd_setNT (mRd_setNT (mRd_setNT m (nt hz) hB 0 _) (nt (hz.set 0 _)) hB 1 _) (nt ((hz.set 0 _).set 1 _)) hB 2 _,
    ((E.bel.setCell (p := ⟨b12, 0, none⟩) h0 _).setCell (p := ⟨b12, 1, none⟩) h0 _).setCell (p := ⟨b12, 2, none⟩) h0 _⟩
set_option exponentiation.threshold 30000 in
set_option maxHeartbeats 4000000 in
set_option maxRecDepth 100000 in
theorem over_good (d : Int) (hd : 0 ≤ d ∧ d ≤ 2) (X Y : Int) (nx ny : Bool) (A1 A2 : Option Addr) (l1 l2 k1 k2 : Nat) (x1 x2 : Int) (w : World) (base : Nat) (hb : base ≤ w.heap.size) (hx : NumC 1074 w base X nx A1 l1 k1 x1) (hy : NumC 1074 w base Y ny A2 l2 k2 x2) (h0x : X ≠ 0) (h0y : Y ≠ 0) (hX : X.natAbs < 2 ^ 2098) (hY : Y.natAbs < 2 ^ 2098) :
    Calls Tryz.prog 79 #[.int .i64 d, .agg #[.bool nx, .slice A1 l1 k1, .int .i64 x1], .agg #[.bool ny, .slice A2 l2 k2, .int .i64 x2]] w fun r w' => r = optRet (toldR d (nx != ny) (hQ X.natAbs Y.natAbs) (restQ X.natAbs Y.natAbs) (eQ X.natAbs Y.natAbs)) ∧ Below w.heap.size w w' := by
  obtain ⟨la, ea, hla, HLa⟩ := len_num 1074 base 2098 X nx A1 l1 k1 x1 w hx h0x hX (by decide)
  obtain ⟨lb, eb, hlb, HLb⟩ := len_num 1074 base 2098 Y ny A2 l2 k2 x2 w hy h0y hY (by decide)
  have HLA := Lib.hid HLa
  have HLB := Lib.hid HLb
  have hn1 : ((l1 : Int) == 0) = false := by
    have := hx.len0
    simp; exact fun h => h0x (this.1 h)
  have hn2 : ((l2 : Int) == 0) = false := by
    have := hy.len0
    simp; exact fun h => h0y (this.1 h)
  have hd1 : ¬ d < 0 := by omega
  have hd2 : ¬ 2 < d := by omega
  have HD := Lib.hid hd
  have HX := Lib.hid (And.intro hx (And.intro hy (And.intro hb (And.intro (And.intro h0x h0y) (And.intro hX hY)))))
  have hba : bl X.natAbs ≤ 2098 := bl_le_of_lt hX
  have hbb : bl Y.natAbs ≤ 2098 := bl_le_of_lt hY
  have hexb : -1074 ≤ x1 ∧ x1 ≤ 2098 := by
    obtain ⟨m, -, -, h3, -, h5, h6⟩ := hx.man h0x
    omega
  have heyb : -1074 ≤ x2 ∧ x2 ≤ 2098 := by
    obtain ⟨m, -, -, h3, -, h5, h6⟩ := hy.man h0y
    omega
  clear HLa HLb hx hy hb h0x h0y hX hY hd
  go_enter Tryz.func79, Tryz.ntmps79
  go_wp2_with fail
  have HB0 := Lib.hid (two_boxes w nx ny A1 A2 l1 l2 k1 k2 x1 x2 rfl)
  refine (size_exact nx x1 A1 l1 k1 _).mono ?_
  rintro r w1 ⟨rfl, hb1⟩
  have H1 := Lib.hid (And.intro (HB0.out.1.below' hb1) (And.intro (HB0.out.2.1.below' hb1) (below_next HB0.out.2.2 hb1)))
  obtain ⟨⟨y0, y1, y2⟩, _⟩ := three H1.out.2.1
  clear hb1 HB0
  have hz : w.heap.size + 1 < w1.heap.size := H1.out.2.1.lt
  go_wp2_with fail
  refine (size_exact ny x2 A2 l2 k2 _).mono ?_
  rintro r w2 ⟨rfl, hb2⟩
  have hBa := below_new (Below.refl w1.heap.size w1) (.cells #[.bool false, .slice A1 l1 k1, .int .i64 x1] 25)
  have hBb := below_next (below_next hBa hb2) (below_new (Below.refl w2.heap.size w2) (.cells #[.bool false, .slice A2 l2 k2, .int .i64 x2] 25))
  have H3' : OvW w (w2.alloc (.cells #[.bool false, .slice A2 l2 k2, .int .i64 x2] 25)) base w.heap.size (w.heap.size + 1) w1.heap.size w2.heap.size X Y nx ny A1 A2 l1 l2 k1 k2 x1 x2 :=
    ⟨H1.out.1.below' hBb, H1.out.2.1.below' hBb, ((num_blk w1 false A1 l1 k1 x1).below' hb2).alloc _, num_blk w2 false A2 l2 k2 x2, (HX.out.1.pos.below (below_next H1.out.2.2 hBb)), (HX.out.2.1.pos.below (below_next H1.out.2.2 hBb)), below_next H1.out.2.2 hBb⟩
  have H3 := Lib.hid H3'
  clear H3' hBa hBb hb2 y0 y1 y2 hz H1
  go_wp2
  obtain ⟨w3, hw3⟩ : ∃ W, w2.alloc (.cells #[.bool false, .slice A2 l2 k2, .int .i64 x2] 25) = W := ⟨_, rfl⟩
  rw [hw3] at H3 ⊢
  clear hw3
  obtain ⟨⟨a0, a1, a2⟩, _⟩ := three H3.out.a
  obtain ⟨⟨b0, b1, b2⟩, _⟩ := three H3.out.b
  have hs1 : IntKind.i64.wrap ((la : Int) + x1) = (la : Int) + x1 := IntWalk.i64_in _ (by omega)
  have hs2 : IntKind.i64.wrap ((la : Int) + x1 - (lb : Int)) = (la : Int) + x1 - (lb : Int) := IntWalk.i64_in _ (by omega)
  have hs3 : IntKind.i64.wrap ((la : Int) + x1 - (lb : Int) - x2) = (la : Int) + x1 - (lb : Int) - x2 := IntWalk.i64_in _ (by omega)
  go_quiet (first | (go_at_call 101; with_reducible exact Calls.quiet_of_same ((HLA.out _ (below_next H3.out.bel (by repeat (first | exact Below.refl _ _ | (with_reducible apply below_drewN) | (with_reducible apply Below.drew))))).mono (fun _ _ h => ⟨h.1, h.2.symm⟩))) | (go_at_call 101; with_reducible exact Calls.quiet_of_same ((HLB.out _ (below_next H3.out.bel (by repeat (first | exact Below.refl _ _ | (with_reducible apply below_drewN) | (with_reducible apply Below.drew))))).mono (fun _ _ h => ⟨h.1, h.2.symm⟩))))
  obtain ⟨k0, hk0⟩ : ∃ k : Int, (la : Int) + x1 - (lb : Int) - x2 = k := ⟨_, rfl⟩
  rw [hk0]
  have hkb : k0 = (bl X.natAbs : Int) - (bl Y.natAbs : Int) := by omega
  obtain ⟨K1, hK1⟩ : ∃ K : Nat, (K : Int) = 4074 - k0 := ⟨(4074 - k0).toNat, by omega⟩
  have HK1 : Hid ((K1 : Int) = ((4074 : Nat) : Int) - k0) := hK1
  have hKB : K1 ≤ 1073741824 := by omega
  have hKe : 1074 + (bl Y.natAbs + 3000) = K1 + bl X.natAbs := by omega
  have HKe := Lib.hid hKe
  have hkr : -3000 ≤ k0 ∧ k0 ≤ 3000 := by omega
  obtain ⟨P, hP⟩ : ∃ P : Nat, 2 ^ 3000 = P := ⟨_, rfl⟩
  have HPP := Lib.hid hP
  have hBP : ((Y.natAbs : Int) * (P : Int)).natAbs < 2 ^ 20000 := by rw [← hP]; exact ov_bd1 HX.out.2.2.2.2.2
  have HMV := Lib.hid (fun (W : World) (hW : Below w3.heap.size w3 W) => moved_c3 4074 K1 base 20000 k0 ((Y.natAbs : Int) * (P : Int)) false A2 l2 k2 x2 W (by have h := (H3.out.B.below hW).raise 3000; rw [hP] at h; exact h) HK1.out (by omega) (by decide) hBP (by decide) hKB)
  obtain ⟨q, hq⟩ : ∃ q, decide (X.natAbs * 2 ^ bl Y.natAbs < Y.natAbs * 2 ^ bl X.natAbs) = q := ⟨_, rfl⟩
  obtain ⟨j1, hj1⟩ : ∃ j, bl Y.natAbs + 3000 = j := ⟨_, rfl⟩
  have hj1b : j1 ≤ 9000 := by omega
  rw [hj1] at hKe HKe
  have HQ0 := Lib.hid hq
  have HJ1 := Lib.hid hj1
  have HKQ : Hid (kQ X.natAbs Y.natAbs = if q then k0 - 1 else k0) := by
    rw [Hid, ← hq, kQ]
    by_cases h : X.natAbs * 2 ^ bl Y.natAbs < Y.natAbs * 2 ^ bl X.natAbs
    · rw [if_pos h, decide_eq_true h, if_pos rfl]; omega
    · rw [if_neg h, decide_eq_false h, if_neg (by decide)]; omega
  have HBL := Lib.hid (And.intro hba hbb)
  clear hj1 hP hs1 hs2 hs3 hk0 hkb hK1 hKe hla hlb hq HLA HLB hn1 hn2 hexb heyb hba hbb hd1 hd2
  go_upto_region 8 with fail
  go_cut [52] (fun s wx => s = .bool q ∧ Hid (OvW w wx base w.heap.size (w.heap.size + 1) w1.heap.size w2.heap.size X Y nx ny A1 A2 l1 l2 k1 k2 x1 x2))
  case first =>
    go_region_held3 (fun W => W.cell? ⟨w1.heap.size, 0, none⟩ = some (.bool false) ∧ W.cell? ⟨w1.heap.size, 1, none⟩ = some (.slice A1 l1 k1) ∧ W.cell? ⟨w1.heap.size, 2, none⟩ = some (.int .i64 x1) ∧ W.cell? ⟨w2.heap.size, 0, none⟩ = some (.bool false) ∧ W.cell? ⟨w2.heap.size, 1, none⟩ = some (.slice A2 l2 k2) ∧ W.cell? ⟨w2.heap.size, 2, none⟩ = some (.int .i64 x2))
      (first | (refine keep6 a0 a1 a2 b0 b1 b2 ?_; (repeat (first | exact HB2.out | exact HB1.out | exact Below.refl _ _ | (with_reducible apply below_drewN) | (with_reducible apply Below.drew) | (with_reducible apply below_new))); done))
      (first
        | (have _t := HMV; go_at_call 81; refine (HMV.out _ (by repeat (first | exact Below.refl _ _ | (with_reducible apply below_drewN) | (with_reducible apply Below.drew)))).mono ?_; rintro e v1 ⟨n5, A5, l5, m5, x5, rfl, hR, hW⟩; have HB1 : Hid (Below w3.heap.size w3 v1) := Below.trans (by repeat (first | exact Below.refl _ _ | (with_reducible apply below_drewN) | (with_reducible apply Below.drew))) hW; have E1 := Lib.hid (H3.out.below HB1.out); have R1 := Lib.hid hR; obtain ⟨cs, hq1, hcp⟩ := ov_cmp3 (A := X.natAbs) (B := Y.natAbs) HPP.out HQ0.out HJ1.out (Nat.le_trans HX.out.2.2.1 E1.out.bel.size) E1.out.A R1.out HKe.out hj1b HBL.out.1 HX.out.2.2.2.2.1 HX.out.2.2.2.2.2; have HQ1 := Lib.hid hq1; have HCP := Lib.hid hcp; clear hR hW HMV hq1 hcp)
        | (have _t := HCP; go_at_call 12; refine (HCP.out _ (by repeat (first | exact Below.refl _ _ | (with_reducible apply below_drewN) | (with_reducible apply Below.drew)))).mono ?_; rintro e v2 ⟨rfl, hW⟩; have HB2 : Hid (Below w3.heap.size w3 v2) := below_next HB1.out (Below.trans (by repeat (first | exact Below.refl _ _ | (with_reducible apply below_drewN) | (with_reducible apply Below.drew))) hW); have E2 := Lib.hid (H3.out.below HB2.out); clear hW HCP))
    all_goals (
      have hq1 := HQ1.out
      go_wp2_with fail
      go_meet
      first | (with_reducible exact ⟨rfl, E2⟩) | exact ⟨congrArg Value.bool hq1, E2⟩)
  case rest =>
    obtain ⟨rfl, hG⟩ := hcut
    obtain ⟨w5, rfl⟩ : ∃ wo : World, wo = wc := ⟨_, rfl⟩
    have H5 := Lib.hid hG.out
    clear hG H3 HMV a0 a1 a2 b0 b1 b2 HQ0
    have hw1 : IntKind.i64.wrap (k0 - 1) = k0 - 1 := IntWalk.i64_in _ (by omega)
    have hw2 : IntKind.i64.wrap (k0 - 52) = k0 - 52 := IntWalk.i64_in _ (by omega)
    have hw3 : IntKind.i64.wrap (k0 - 1 - 52) = k0 - 1 - 52 := IntWalk.i64_in _ (by omega)
    cases q
    · go_upto_region 10 with fail
      go_cut [11] (fun sx wx => ∃ E : Int, sx = .int .i64 E ∧ Hid (eQ X.natAbs Y.natAbs = E ∧ -1074 ≤ E ∧ E ≤ 3000) ∧ wx = w5)
      case first =>
        have hkq := HKQ.out
        by_cases hm : k0 - 52 < -1074
        · have c1 : ¬ (-1074 < k0 - 52) := by omega
          have c2 : ¬ (-1074 ≤ k0 - 52) := by omega
          go_wp2_with fail
          go_meet
          exact ⟨_, rfl, ⟨by unfold eQ; rw [hkq]; simp only [if_true, Bool.false_eq_true, if_false]; omega, by omega, by omega⟩, rfl⟩
        · have c1 : -1074 ≤ k0 - 52 := by omega
          go_wp2_with fail
          go_meet
          exact ⟨_, rfl, ⟨by unfold eQ; rw [hkq]; simp only [if_true, Bool.false_eq_true, if_false]; omega, by omega, by omega⟩, rfl⟩
      case rest =>
        obtain ⟨E, rfl, hE, rfl⟩ := hcut
        obtain ⟨K2, hK2⟩ : ∃ K : Nat, (K : Int) = ((4074 : Nat) : Int) - (E - 1) := ⟨(4074 - (E - 1)).toNat, by have := hE.out.2; omega⟩
        have hEb := hE.out.2
        obtain ⟨Q3, hQ3⟩ : ∃ P : Nat, 2 ^ 4075 = P := ⟨_, rfl⟩
        have HQ3 := Lib.hid hQ3
        have HK2 := Lib.hid hK2
        have HA0 : Hid (X.natAbs ≠ 0 ∧ Y.natAbs ≠ 0) := ⟨by have := HX.out.2.2.2.1.1; omega, by have := HX.out.2.2.2.1.2; omega⟩
        have HM := Lib.hid (fun (W : World) (hW : Below wc.heap.size wc W) => moved_c3 4074 K2 base 20000 (E - 1) ((Y.natAbs : Int) * (P : Int)) false A2 l2 k2 x2 W (by have h := (H5.out.B.below hW).raise 3000; rw [HPP.out] at h; exact h) HK2.out (by omega) (by decide) hBP (by decide) (by omega))
        have hqb := hQ_bd HA0.out.1 HA0.out.2
        have HT := Lib.hid (fun W => told_all d HD.out (nx != ny) (restQ X.natAbs Y.natAbs) (hQ X.natAbs Y.natAbs) E W hqb.1 (by rw [← hE.out.1]; exact hqb.2) hEb.1 (by omega))
        have hh64 : hQ X.natAbs Y.natAbs < B32 ^ 2 := by have := hqb.1; simp only [B32]; omega
        have HH64 := Lib.hid hh64
        obtain ⟨⟨a0, a1, a2⟩, _⟩ := three H5.out.a
        obtain ⟨⟨b0, b1, b2⟩, _⟩ := three H5.out.b
        have hwe : IntKind.i64.wrap (E - 1) = E - 1 := IntWalk.i64_in _ (by omega)
        obtain ⟨hq', hhq⟩ : ∃ h, hQ X.natAbs Y.natAbs = h := ⟨_, rfl⟩
        obtain ⟨rq', hrq⟩ : ∃ h, restQ X.natAbs Y.natAbs = h := ⟨_, rfl⟩
        have HHQ := Lib.hid (And.intro hhq hrq)
        rw [hhq, hrq] at HT
        rw [hhq] at HH64
        clear hQ3 hK2 hqb hh64 hhq hrq
        go_upto_region 11 with fail
        go_cut [12, 13] (fun sp st wx => ∃ (b12 : Nat) (C : Option Addr) (n cc : Nat), sp = .pointer (some ⟨b12, 0, none⟩) ∧ st = .bool rq' ∧ Hid (OvE w wx base w.heap.size (w.heap.size + 1) b12 hq' nx ny A1 A2 C l1 l2 k1 k2 n cc x1 x2))
        case first =>
          have hx5 := H5.out.x.lt
          have hy5 := H5.out.y.lt
          go_region_held3 (fun W => W.cell? ⟨w1.heap.size, 0, none⟩ = some (.bool false) ∧ W.cell? ⟨w1.heap.size, 1, none⟩ = some (.slice A1 l1 k1) ∧ W.cell? ⟨w1.heap.size, 2, none⟩ = some (.int .i64 x1) ∧ W.cell? ⟨w2.heap.size, 0, none⟩ = some (.bool false) ∧ W.cell? ⟨w2.heap.size, 1, none⟩ = some (.slice A2 l2 k2) ∧ W.cell? ⟨w2.heap.size, 2, none⟩ = some (.int .i64 x2))
            (first | (refine keep6 a0 a1 a2 b0 b1 b2 ?_; (repeat (first | exact HB2.out | exact HB1.out | exact Below.refl _ _ | (with_reducible apply below_drewN) | (with_reducible apply Below.drew) | (with_reducible apply below_new))); done) | (refine keep6 a0 a1 a2 b0 b1 b2 ?_; refine Below.setCell (Below.setCell (Below.setCell ?_ (by first | exact HB1.out.size | exact Nat.le_refl _) _) (by first | exact HB1.out.size | exact Nat.le_refl _) _) (by first | exact HB1.out.size | exact Nat.le_refl _) _; (repeat (first | exact HB2.out | exact HB1.out | exact Below.refl _ _ | (with_reducible apply below_drewN) | (with_reducible apply Below.drew) | (with_reducible apply below_new))); done))
            (first
              | (have _t := HM; go_at_call 81; refine (HM.out _ (by repeat (first | exact Below.refl _ _ | (with_reducible apply below_drewN) | (with_reducible apply Below.drew) | (with_reducible apply below_new)))).mono ?_; rintro e v1 ⟨n5, A5, l5, m5, x5, rfl, hR, hW⟩; have HB1 : Hid (Below wc.heap.size wc v1) := below_next (by repeat (first | exact Below.refl _ _ | (with_reducible apply below_drewN) | (with_reducible apply Below.drew) | (with_reducible apply below_new))) hW; have E1 := Lib.hid (H5.out.below HB1.out); obtain ⟨hn5, hpt⟩ := ov_part (A := X.natAbs) (B := Y.natAbs) HPP.out HQ3.out hE.out.1 hE.out.2 HK2.out (Nat.le_trans HX.out.2.2.1 E1.out.bel.size) E1.out.A hR HA0.out.1 HA0.out.2 HX.out.2.2.2.2.1 HX.out.2.2.2.2.2; subst hn5; have HPT := Lib.hid hpt; rw [HHQ.out.1, HHQ.out.2] at HPT; (first | (have HZ1 := Lib.hid (show Blk v1 wc.heap.size 25 [.bool false, .slice none 0 0, .int .i64 0] from (num_new wc.drew).below' hW)) | (have HZ1 := Lib.hid (show Blk v1 wc.heap.size 25 [.bool false, .slice none 0 0, .int .i64 0] from (num_new wc).below' hW)) | skip); clear hR hW HM hpt)
              | (have _t := HPT; go_at_call 106; refine (HPT.out _ (by repeat (first | exact Below.refl _ _ | (with_reducible apply below_drewN) | (with_reducible apply Below.drew) | (with_reducible apply below_new)))).mono ?_; rintro e v2 ⟨vq, rfl, hR, hW⟩; have HB2 : Hid (Below wc.heap.size wc v2) := below_next HB1.out (below_next (by repeat (first | exact Below.refl _ _ | (with_reducible apply below_drewN) | (with_reducible apply Below.drew) | (with_reducible apply below_new))) hW); have E2 := Lib.hid (H5.out.below HB2.out); obtain ⟨ts, C, cc, hvz, hcc, hr2, ht2, hv2⟩ := hR; cases hvz; have R2 : Hid (mRd.R v2 base hq' [.slice C ts.length cc]) := ⟨ts, C, cc, rfl, hcc, hr2, ht2, hv2⟩; (first | (have HZ2 := Lib.hid (HZ1.out.below' (below_next (by repeat (first | exact Below.refl _ _ | (with_reducible apply below_drewN) | (with_reducible apply Below.drew) | (with_reducible apply below_new))) hW)); obtain ⟨⟨z0, z1, z2⟩, f0, f1, f2⟩ := three HZ2.out) | (have HZ2 := Lib.hid ((num_new v1).below' hW); obtain ⟨⟨z0, z1, z2⟩, f0, f1, f2⟩ := three HZ2.out) | skip); clear hW HPT hr2 ht2 hv2 hcc))
          all_goals (
            go_wp2_with fail
            go_meet
            have hx1' := HB1.out.size
            first
              | exact ⟨_, _, _, _, rfl, rfl, ove_new E2.out R2.out⟩
              | exact ⟨_, _, _, _, rfl, rfl, ove_set E2.out R2.out HZ2.out (by omega) (by omega) (by have := HX.out.2.2.1; omega) (by omega)⟩)
        case rest =>
          obtain ⟨b12, C, n, cc, rfl, rfl, hE2⟩ := hcut
          obtain ⟨w9, rfl⟩ : ∃ wo : World, wo = wc := ⟨_, rfl⟩
          have H9 := Lib.hid hE2.out
          clear hE2 HM a0 a1 a2 b0 b1 b2 H5
          obtain ⟨ts, C', cc', hvz, hcc, hr2, ht2, hv2⟩ := H9.out.m
          cases hvz
          have hl2 : ts.length ≤ 2 := mRd_len ht2 hv2 HH64.out
          have HWD := Lib.hid (fun W (hw : Below w9.heap.size w9 W) => word_calls C ts.length cc 56 base ts W rfl (hr2.below hw) hl2)
          rw [hv2] at HWD
          obtain ⟨⟨e0, e1, e2⟩, _⟩ := three H9.out.x
          obtain ⟨⟨f0, f1, f2⟩, _⟩ := three H9.out.y
          obtain ⟨⟨g0, g1, g2⟩, _⟩ := three H9.out.z
          clear hr2 ht2 hv2 hl2
          go_wp2
          go_quiet (first | (go_at_call 105; exact Calls.quiet_of_same ((HWD.out _ (by repeat (first | exact Below.refl _ _ | (with_reducible apply below_drewN) | (with_reducible apply Below.drew)))).mono (fun _ _ h => ⟨h.1, h.2.symm⟩))) | (go_at_call 104; exact Calls.quiet_of_same ((HT.out _).mono (fun _ _ h => ⟨h.1, h.2.symm⟩))))
          go_wp2
          go_ret2
          refine ⟨?_, (by repeat (first | exact H9.out.bel | (with_reducible apply below_drewN)))⟩
          rw [HHQ.out.1, HHQ.out.2, hE.out.1]; rfl
    · go_upto_region 10 with fail
      go_cut [11] (fun sx wx => ∃ E : Int, sx = .int .i64 E ∧ Hid (eQ X.natAbs Y.natAbs = E ∧ -1074 ≤ E ∧ E ≤ 3000) ∧ wx = w5)
      case first =>
        have hkq := HKQ.out
        by_cases hm : k0 - 1 - 52 < -1074
        · have c1 : ¬ (-1074 < k0 - 1 - 52) := by omega
          have c2 : ¬ (-1074 ≤ k0 - 1 - 52) := by omega
          go_wp2_with fail
          go_meet
          exact ⟨_, rfl, ⟨by unfold eQ; rw [hkq]; simp only [if_true, Bool.false_eq_true, if_false]; omega, by omega, by omega⟩, rfl⟩
        · have c1 : -1074 ≤ k0 - 1 - 52 := by omega
          go_wp2_with fail
          go_meet
          exact ⟨_, rfl, ⟨by unfold eQ; rw [hkq]; simp only [if_true, Bool.false_eq_true, if_false]; omega, by omega, by omega⟩, rfl⟩
      case rest =>
        obtain ⟨E, rfl, hE, rfl⟩ := hcut
        obtain ⟨K2, hK2⟩ : ∃ K : Nat, (K : Int) = ((4074 : Nat) : Int) - (E - 1) := ⟨(4074 - (E - 1)).toNat, by have := hE.out.2; omega⟩
        have hEb := hE.out.2
        obtain ⟨Q3, hQ3⟩ : ∃ P : Nat, 2 ^ 4075 = P := ⟨_, rfl⟩
        have HQ3 := Lib.hid hQ3
        have HK2 := Lib.hid hK2
        have HA0 : Hid (X.natAbs ≠ 0 ∧ Y.natAbs ≠ 0) := ⟨by have := HX.out.2.2.2.1.1; omega, by have := HX.out.2.2.2.1.2; omega⟩
        have HM := Lib.hid (fun (W : World) (hW : Below wc.heap.size wc W) => moved_c3 4074 K2 base 20000 (E - 1) ((Y.natAbs : Int) * (P : Int)) false A2 l2 k2 x2 W (by have h := (H5.out.B.below hW).raise 3000; rw [HPP.out] at h; exact h) HK2.out (by omega) (by decide) hBP (by decide) (by omega))
        have hqb := hQ_bd HA0.out.1 HA0.out.2
        have HT := Lib.hid (fun W => told_all d HD.out (nx != ny) (restQ X.natAbs Y.natAbs) (hQ X.natAbs Y.natAbs) E W hqb.1 (by rw [← hE.out.1]; exact hqb.2) hEb.1 (by omega))
        have hh64 : hQ X.natAbs Y.natAbs < B32 ^ 2 := by have := hqb.1; simp only [B32]; omega
        have HH64 := Lib.hid hh64
        obtain ⟨⟨a0, a1, a2⟩, _⟩ := three H5.out.a
        obtain ⟨⟨b0, b1, b2⟩, _⟩ := three H5.out.b
        have hwe : IntKind.i64.wrap (E - 1) = E - 1 := IntWalk.i64_in _ (by omega)
        obtain ⟨hq', hhq⟩ : ∃ h, hQ X.natAbs Y.natAbs = h := ⟨_, rfl⟩
        obtain ⟨rq', hrq⟩ : ∃ h, restQ X.natAbs Y.natAbs = h := ⟨_, rfl⟩
        have HHQ := Lib.hid (And.intro hhq hrq)
        rw [hhq, hrq] at HT
        rw [hhq] at HH64
        clear hQ3 hK2 hqb hh64 hhq hrq
        go_upto_region 11 with fail
        go_cut [12, 13] (fun sp st wx => ∃ (b12 : Nat) (C : Option Addr) (n cc : Nat), sp = .pointer (some ⟨b12, 0, none⟩) ∧ st = .bool rq' ∧ Hid (OvE w wx base w.heap.size (w.heap.size + 1) b12 hq' nx ny A1 A2 C l1 l2 k1 k2 n cc x1 x2))
        case first =>
          have hx5 := H5.out.x.lt
          have hy5 := H5.out.y.lt
          go_region_held3 (fun W => W.cell? ⟨w1.heap.size, 0, none⟩ = some (.bool false) ∧ W.cell? ⟨w1.heap.size, 1, none⟩ = some (.slice A1 l1 k1) ∧ W.cell? ⟨w1.heap.size, 2, none⟩ = some (.int .i64 x1) ∧ W.cell? ⟨w2.heap.size, 0, none⟩ = some (.bool false) ∧ W.cell? ⟨w2.heap.size, 1, none⟩ = some (.slice A2 l2 k2) ∧ W.cell? ⟨w2.heap.size, 2, none⟩ = some (.int .i64 x2))
            (first | (refine keep6 a0 a1 a2 b0 b1 b2 ?_; (repeat (first | exact HB2.out | exact HB1.out | exact Below.refl _ _ | (with_reducible apply below_drewN) | (with_reducible apply Below.drew) | (with_reducible apply below_new))); done) | (refine keep6 a0 a1 a2 b0 b1 b2 ?_; refine Below.setCell (Below.setCell (Below.setCell ?_ (by first | exact HB1.out.size | exact Nat.le_refl _) _) (by first | exact HB1.out.size | exact Nat.le_refl _) _) (by first | exact HB1.out.size | exact Nat.le_refl _) _; (repeat (first | exact HB2.out | exact HB1.out | exact Below.refl _ _ | (with_reducible apply below_drewN) | (with_reducible apply Below.drew) | (with_reducible apply below_new))); done))
            (first
              | (have _t := HM; go_at_call 81; refine (HM.out _ (by repeat (first | exact Below.refl _ _ | (with_reducible apply below_drewN) | (with_reducible apply Below.drew) | (with_reducible apply below_new)))).mono ?_; rintro e v1 ⟨n5, A5, l5, m5, x5, rfl, hR, hW⟩; have HB1 : Hid (Below wc.heap.size wc v1) := below_next (by repeat (first | exact Below.refl _ _ | (with_reducible apply below_drewN) | (with_reducible apply Below.drew) | (with_reducible apply below_new))) hW; have E1 := Lib.hid (H5.out.below HB1.out); obtain ⟨hn5, hpt⟩ := ov_part (A := X.natAbs) (B := Y.natAbs) HPP.out HQ3.out hE.out.1 hE.out.2 HK2.out (Nat.le_trans HX.out.2.2.1 E1.out.bel.size) E1.out.A hR HA0.out.1 HA0.out.2 HX.out.2.2.2.2.1 HX.out.2.2.2.2.2; subst hn5; have HPT := Lib.hid hpt; rw [HHQ.out.1, HHQ.out.2] at HPT; (first | (have HZ1 := Lib.hid (show Blk v1 wc.heap.size 25 [.bool false, .slice none 0 0, .int .i64 0] from (num_new wc.drew).below' hW)) | (have HZ1 := Lib.hid (show Blk v1 wc.heap.size 25 [.bool false, .slice none 0 0, .int .i64 0] from (num_new wc).below' hW)) | skip); clear hR hW HM hpt)
              | (have _t := HPT; go_at_call 106; refine (HPT.out _ (by repeat (first | exact Below.refl _ _ | (with_reducible apply below_drewN) | (with_reducible apply Below.drew) | (with_reducible apply below_new)))).mono ?_; rintro e v2 ⟨vq, rfl, hR, hW⟩; have HB2 : Hid (Below wc.heap.size wc v2) := below_next HB1.out (below_next (by repeat (first | exact Below.refl _ _ | (with_reducible apply below_drewN) | (with_reducible apply Below.drew) | (with_reducible apply below_new))) hW); have E2 := Lib.hid (H5.out.below HB2.out); obtain ⟨ts, C, cc, hvz, hcc, hr2, ht2, hv2⟩ := hR; cases hvz; have R2 : Hid (mRd.R v2 base hq' [.slice C ts.length cc]) := ⟨ts, C, cc, rfl, hcc, hr2, ht2, hv2⟩; (first | (have HZ2 := Lib.hid (HZ1.out.below' (below_next (by repeat (first | exact Below.refl _ _ | (with_reducible apply below_drewN) | (with_reducible apply Below.drew) | (with_reducible apply below_new))) hW)); obtain ⟨⟨z0, z1, z2⟩, f0, f1, f2⟩ := three HZ2.out) | (have HZ2 := Lib.hid ((num_new v1).below' hW); obtain ⟨⟨z0, z1, z2⟩, f0, f1, f2⟩ := three HZ2.out) | skip); clear hW HPT hr2 ht2 hv2 hcc))
          all_goals (
            go_wp2_with fail
            go_meet
            have hx1' := HB1.out.size
            first
              | exact ⟨_, _, _, _, rfl, rfl, ove_new E2.out R2.out⟩
              | exact ⟨_, _, _, _, rfl, rfl, ove_set E2.out R2.out HZ2.out (by omega) (by omega) (by have := HX.out.2.2.1; omega) (by omega)⟩)
        case rest =>
          obtain ⟨b12, C, n, cc, rfl, rfl, hE2⟩ := hcut
          obtain ⟨w9, rfl⟩ : ∃ wo : World, wo = wc := ⟨_, rfl⟩
          have H9 := Lib.hid hE2.out
          clear hE2 HM a0 a1 a2 b0 b1 b2 H5
          obtain ⟨ts, C', cc', hvz, hcc, hr2, ht2, hv2⟩ := H9.out.m
          cases hvz
          have hl2 : ts.length ≤ 2 := mRd_len ht2 hv2 HH64.out
          have HWD := Lib.hid (fun W (hw : Below w9.heap.size w9 W) => word_calls C ts.length cc 56 base ts W rfl (hr2.below hw) hl2)
          rw [hv2] at HWD
          obtain ⟨⟨e0, e1, e2⟩, _⟩ := three H9.out.x
          obtain ⟨⟨f0, f1, f2⟩, _⟩ := three H9.out.y
          obtain ⟨⟨g0, g1, g2⟩, _⟩ := three H9.out.z
          clear hr2 ht2 hv2 hl2
          go_wp2
          go_quiet (first | (go_at_call 105; exact Calls.quiet_of_same ((HWD.out _ (by repeat (first | exact Below.refl _ _ | (with_reducible apply below_drewN) | (with_reducible apply Below.drew)))).mono (fun _ _ h => ⟨h.1, h.2.symm⟩))) | (go_at_call 104; exact Calls.quiet_of_same ((HT.out _).mono (fun _ _ h => ⟨h.1, h.2.symm⟩))))
          go_wp2
          go_ret2
          refine ⟨?_, (by repeat (first | exact H9.out.bel | (with_reducible apply below_drewN)))⟩
          rw [HHQ.out.1, HHQ.out.2, hE.out.1]; rfl
end Go.Proofs.YtfgdmiigmcnmpaaGreatFmt
