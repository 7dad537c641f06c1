import Derived.Test.YtikdhkmcdmnadaaGreatFmtBesafterJ39
import Derived.Test.YtikdhkmcdmnadaaGreatFmtBesafterJ40
set_option linter.unusedVariables false
set_option linter.unusedSimpArgs false
namespace Go.Proofs.YtikdhkmcdmnadaaGreatFmtBesafter
open Go.RowKit
attribute [local go_sem ↓] Go.wp_at_zero Go.wp_at_succ

/-! ### RoundHolds -/
/-- a number of the reference in a block, at 2^-K -/
def NK (K : Nat) (w : World) (base b : Nat) (X : Int) (neg : Bool) (A : Option Addr) (n c : Nat) (x : Int) : Prop := Blk w b 25 [.bool neg, .slice A n c, .int .i64 x] ∧ NumC K w base X neg A n c x
theorem NK.below {K : Nat} {w w' : World} {base b : Nat} {X : Int} {neg : Bool} {A : Option Addr} {n c : Nat} {x : Int} (h : NK K w base b X neg A n c x) (hb : Below w.heap.size w w') : NK K w' base b X neg A n c x := ⟨h.1.below' hb, h.2.below hb⟩
theorem NK.cells {K : Nat} {w : World} {base b : Nat} {X : Int} {neg : Bool} {A : Option Addr} {n c : Nat} {x : Int} (h : NK K w base b X neg A n c x) : w.cell? ⟨b, 0, none⟩ = some (.bool neg) ∧ w.cell? ⟨b, 1, none⟩ = some (.slice A n c) ∧ w.cell? ⟨b, 2, none⟩ = some (.int .i64 x) := (three h.1).1
theorem NK.new {K : Nat} {w : World} {base : Nat} {X : Int} {neg : Bool} {A : Option Addr} {n c : Nat} {x : Int} (h : NumC K w base X neg A n c x) : NK K (w.alloc (.cells #[.bool neg, .slice A n c, .int .i64 x] 25)) base w.heap.size X neg A n c x := ⟨num_blk _ _ _ _ _ _, h.below (below_new (Below.refl _ _) _)⟩
/-- v, top -/
structure Two (w0 w : World) (base b7 b15 : Nat) (X T : Int) (n1 n2 : Bool) (A1 A2 : Option Addr) (l1 l2 c1 c2 : Nat) (x1 x2 : Int) : Prop where
  x : NK 2148 w base b7 X n1 A1 l1 c1 x1
  t : NK 1074 w base b15 T n2 A2 l2 c2 x2
  bel : Below w0.heap.size w0 w
theorem Two.below {w0 w w' : World} {base b7 b15 : Nat} {X T : Int} {n1 n2 : Bool} {A1 A2 : Option Addr} {l1 l2 c1 c2 : Nat} {x1 x2 : Int} (h : Two w0 w base b7 b15 X T n1 n2 A1 A2 l1 l2 c1 c2 x1 x2) (hb : Below w.heap.size w w') : Two w0 w' base b7 b15 X T n1 n2 A1 A2 l1 l2 c1 c2 x1 x2 := ⟨h.x.below hb, h.t.below hb, below_next h.bel hb⟩
/-- v, top, and one more -/
structure Thr (w0 w : World) (base b7 b15 b17 : Nat) (X T S : Int) (n1 n2 n3 : Bool) (A1 A2 A3 : Option Addr) (l1 l2 l3 c1 c2 c3 : Nat) (x1 x2 x3 : Int) : Prop where
  x : NK 2148 w base b7 X n1 A1 l1 c1 x1
  t : NK 1074 w base b15 T n2 A2 l2 c2 x2
  s : NK 1074 w base b17 S n3 A3 l3 c3 x3
  bel : Below w0.heap.size w0 w
theorem Thr.below {w0 w w' : World} {base b7 b15 b17 : Nat} {X T S : Int} {n1 n2 n3 : Bool} {A1 A2 A3 : Option Addr} {l1 l2 l3 c1 c2 c3 : Nat} {x1 x2 x3 : Int} (h : Thr w0 w base b7 b15 b17 X T S n1 n2 n3 A1 A2 A3 l1 l2 l3 c1 c2 c3 x1 x2 x3) (hb : Below w.heap.size w w') : Thr w0 w' base b7 b15 b17 X T S n1 n2 n3 A1 A2 A3 l1 l2 l3 c1 c2 c3 x1 x2 x3 := ⟨h.x.below hb, h.t.below hb, h.s.below hb, below_next h.bel hb⟩
/-- v, p, q -/
structure Vpq (w0 w : World) (base b7 b19 b21 : Nat) (X S Q : Int) (n1 n3 n4 : Bool) (A1 A3 A4 : Option Addr) (l1 l3 l4 c1 c3 c4 : Nat) (x1 x3 x4 : Int) : Prop where
  x : NK 2148 w base b7 X n1 A1 l1 c1 x1
  p : NK 1074 w base b19 S n3 A3 l3 c3 x3
  q : NK 1074 w base b21 Q n4 A4 l4 c4 x4
  bel : Below w0.heap.size w0 w
theorem Vpq.below {w0 w w' : World} {base b7 b19 b21 : Nat} {X S Q : Int} {n1 n3 n4 : Bool} {A1 A3 A4 : Option Addr} {l1 l3 l4 c1 c3 c4 : Nat} {x1 x3 x4 : Int} (h : Vpq w0 w base b7 b19 b21 X S Q n1 n3 n4 A1 A3 A4 l1 l3 l4 c1 c3 c4 x1 x3 x4) (hb : Below w.heap.size w w') : Vpq w0 w' base b7 b19 b21 X S Q n1 n3 n4 A1 A3 A4 l1 l3 l4 c1 c3 c4 x1 x3 x4 := ⟨h.x.below hb, h.p.below hb, h.q.below hb, below_next h.bel hb⟩
set_option exponentiation.threshold 3000 in
theorem top_val : ((rv MAXB * 2 ^ 1074 : Nat) : Int) = numV 9218868437227405311 * ((2 ^ 1074 : Nat) : Int) := by
  have h := fv_word (neg := false) (r := MAXB) (by decide)
  have e : wordR false MAXB = 9218868437227405311 := rfl
  rw [e] at h
  have hf : fin 9218868437227405311 = true := by decide
  unfold numV
  rw [hf, if_pos rfl, h, Int.natCast_mul]; rfl
theorem top_nn : ((numV 9218868437227405311).natAbs : Int) = numV 9218868437227405311 ∧ ((numV 18442240474082181119).natAbs : Int) = numV 9218868437227405311 := by
  have h := fv_word (neg := false) (r := MAXB) (by decide)
  have h' := fv_word (neg := true) (r := MAXB) (by decide)
  have e : wordR false MAXB = 9218868437227405311 := rfl
  have e' : wordR true MAXB = 18442240474082181119 := rfl
  rw [e] at h
  rw [e'] at h'
  have hf : fin 9218868437227405311 = true := by decide
  have hf' : fin 18442240474082181119 = true := by decide
  unfold numV
  rw [hf, hf', if_pos rfl, if_pos rfl, h, h', sg_abs, sg_abs]
  exact ⟨rfl, rfl⟩
theorem add_top : Ieee.double.add 9218868437227405311 0 = some 9218868437227405311 ∧ Ieee.double.add 0 18442240474082181119 = some 18442240474082181119 := by decide +kernel
theorem cs_in {a b : Int} (h : -1 ≤ a ∧ a ≤ 1) (k : -1 ≤ b ∧ b ≤ 1) (ha : 0 ≤ a) (hb : b ≤ 0) : (a = 0 ∧ b = 0) ∨ (a = 0 ∧ b = -1) ∨ (a = 1 ∧ b = 0) ∨ (a = 1 ∧ b = -1) := by omega
theorem cs_holds_hi {a b : Int} (h : -1 ≤ a ∧ a ≤ 1) (k : -1 ≤ b ∧ b ≤ 1) (ha : 0 ≤ a) (hb : ¬ b ≤ 0) : (a = 0 ∧ b = 1) ∨ (a = 1 ∧ b = 1) := by omega
theorem cs_holds_lo {a b : Int} (h : -1 ≤ a ∧ a ≤ 1) (k : -1 ≤ b ∧ b ≤ 1) (ha : ¬ 0 ≤ a) (hb : b ≤ 0) : (a = -1 ∧ b = 0) ∨ (a = -1 ∧ b = -1) := by omega
theorem neg_mul_top (T : Int) : -T * ((2 ^ 1074 : Nat) : Int) = -(T * ((2 ^ 1074 : Nat) : Int)) := Int.neg_mul _ _
set_option exponentiation.threshold 6000 in
set_option maxHeartbeats 8000000 in
set_option maxRecDepth 100000 in
theorem holds_none (c k : Int) (u v : Nat) (X : Int) (hk : 1 + c.tmod 3 % 3 = k) (hk3 : k = 1 ∨ k = 2 ∨ k = 3)
    (hex : ∀ W base, base ≤ W.heap.size → Calls Tryz.prog 4 #[.int .i64 k, .float .f64 u, .float .f64 v] W fun e w' => ∃ (neg : Bool) (A : Option Addr) (n k : Nat) (x : Int), e = .returned (.tuple #[.agg #[.bool neg, .slice A n k, .int .i64 x], .bool false]) ∧ NumC 2148 w' base X neg A n k x ∧ Below W.heap.size W w')
    (hlo : ∀ W, Calls Tryz.prog 5 #[.int .i64 k, .int .i64 2, .float .f64 u, .float .f64 v] W fun e w' => e = .returned (.tuple #[.float .f64 0, .bool false]) ∧ Below W.heap.size W w')
    (hhi : ∀ W, Calls Tryz.prog 5 #[.int .i64 k, .int .i64 1, .float .f64 u, .float .f64 v] W fun e w' => e = .returned (.tuple #[.float .f64 0, .bool false]) ∧ Below W.heap.size W w')
    (hme : ∀ W, Calls Tryz.prog 5 #[.int .i64 k, .int .i64 0, .float .f64 u, .float .f64 v] W fun e w' => e = .returned (.tuple #[.float .f64 0, .bool false]) ∧ Below W.heap.size W w')
    (w : World) :
    Calls Tryz.prog 3 #[.int .i64 c, .float .f64 u, .float .f64 v] w fun e w' => e = .returned (.bool true) ∧ Below w.heap.size w w' := by
  have HEX := Lib.hid hex
  have HLO := Lib.hid hlo
  have HHI := Lib.hid hhi
  have HME := Lib.hid hme
  have hm1 : -2 ≤ c.tmod 3 ∧ c.tmod 3 ≤ 2 := by
    have := Int.tmod_lt_of_pos c (show (0 : Int) < 3 by decide)
    have := Int.lt_tmod_of_pos c (show (0 : Int) < 3 by decide)
    omega
  clear hex hlo hhi hme
  go_enter Tryz.func3, Tryz.ntmps3
  go_wp2_with fail
  try rw [hk]
  clear hk hk3 hm1
  refine (HEX.out w w.heap.size (Nat.le_refl _)).mono ?_
  rintro e w1 ⟨n1, A1, l1, k1, x1, rfl, hR, hW⟩
  have hB := below_new (Below.refl w1.heap.size w1) (.cells #[.bool n1, .slice A1 l1 k1, .int .i64 x1] 25)
  have H1 := Lib.hid (And.intro (NK.new hR) (below_next hW hB))
  clear hR hW hB
  go_wp2_with fail
  refine (HLO.out _).mono ?_
  rintro e w2 ⟨rfl, hW⟩
  have H2 := Lib.hid (And.intro (H1.out.1.below hW) (below_next H1.out.2 hW))
  clear hW H1
  go_wp2_with fail
  refine (HHI.out _).mono ?_
  rintro e w3 ⟨rfl, hW⟩
  have H3 := Lib.hid (And.intro (H2.out.1.below hW) (below_next H2.out.2 hW))
  clear hW H2
  go_wp2_with fail
  refine (HME.out _).mono ?_
  rintro e w4 ⟨rfl, hW⟩
  have H4 := Lib.hid (And.intro (H3.out.1.below hW) (below_next H3.out.2 hW))
  clear hW H3 HEX HLO HHI HME
  have ho : (FloatKind.f64.format.order 0 0 == some .eq) = true := by decide +kernel
  go_wp2_with fail
  refine (started_calls _).mono ?_
  rintro e wz ⟨rfl, hW⟩
  have HZ := Lib.hid (below_next H4.out.2 hW)
  clear hW
  go_wp2
  go_ret
  exact ⟨rfl, HZ.out⟩
set_option exponentiation.threshold 7000 in
theorem diff_bd {x y : Int} (h : x.natAbs < 2 ^ 5000) (k : y.natAbs < 2 ^ 5000) : (x - y).natAbs < 2 ^ 6000 := by
  have e : (2 : Nat) ^ 5000 * 2 ^ 1000 = 2 ^ 6000 := by rw [← Nat.pow_add]
  have e1 : 2 ≤ 2 ^ 1000 := Nat.le_trans (by decide : 2 ≤ 2 ^ 1) (Nat.pow_le_pow_right (by decide) (by decide))
  have e2 := Nat.mul_le_mul_left (2 ^ 5000) e1
  rw [e] at e2
  generalize (2 : Nat) ^ 5000 = a at *
  generalize (2 : Nat) ^ 6000 = b at *
  omega
end Go.Proofs.YtikdhkmcdmnadaaGreatFmtBesafter
