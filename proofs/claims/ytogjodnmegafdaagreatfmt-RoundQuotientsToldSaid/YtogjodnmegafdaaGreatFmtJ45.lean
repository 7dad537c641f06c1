/- Walks and plain laws of this seat's functions, part 45: Q8 Q5 Q6 Q7a. -/
import Derived.Test.YtogjodnmegafdaaGreatFmtJ36
import Derived.Test.YtogjodnmegafdaaGreatFmtJ37
import Derived.Test.YtogjodnmegafdaaGreatFmtJ38
import Derived.Test.YtogjodnmegafdaaGreatFmtJ41
import Derived.Test.YtogjodnmegafdaaGreatFmtJ43
import Derived.Test.YtogjodnmegafdaaGreatFmtJ44
set_option linter.unusedVariables false
set_option linter.unusedSimpArgs false
namespace Go.Proofs.YtogjodnmegafdaaGreatFmt
open Go.RowKit
attribute [local go_sem ↓] Go.wp_at_zero Go.wp_at_succ

/-! ### ref2.Next, law2.same, law2.one of Next, RoundNext -/
theorem number2_calls (u : Nat) (hu : u < 18446744073709551616) (w : World) :
    Calls Tryz.prog 28 #[.int .u64 u] w fun e w' => e = .returned (.bool (fin u)) ∧ w = w' := by
  have hb1 := bits_fexp hu
  obtain ⟨x, hx⟩ : ∃ x, fexp u = x := ⟨_, rfl⟩
  have hf : fin u = decide (x ≠ 2047) := by unfold fin; rw [hx]
  rw [hx] at hb1
  rw [hf]
  have hq : Hid (((x : Int) != 2047) = decide (x ≠ 2047)) := by
    rw [Hid]
    by_cases h : x = 2047
    · subst h; rfl
    · rw [decide_eq_true h]
      have : (x : Int) ≠ 2047 := by omega
      simpa using this
  clear hf hx
  obtain ⟨b, hb⟩ : ∃ b, decide (x ≠ 2047) = b := ⟨_, rfl⟩
  rw [hb] at hq ⊢
  clear hb
  go_enter Tryz.func28, Tryz.ntmps28
  go_wp2
  go_ret
  refine ⟨?_, rfl⟩
  show Ending.returned (.bool ((x : Int) != 2047)) = _
  rw [hq.out]
theorem same_calls (a : Nat) (ok : Bool) (w : World) :
    Calls Tryz.prog 56 #[.float .f64 a, .bool ok, .int .u64 a, .bool ok] w fun e w' => e = .returned (.bool true) ∧ w = w' := by
  have HB := Lib.hid (fun W => apibits_calls a W)
  cases ok
  all_goals (
    go_enter Tryz.func56, Tryz.ntmps56
    go_wp2_with fail
    refine (HB.out _).mono ?_
    rintro e w' ⟨rfl, rfl⟩
    go_wp2
    go_ret
    exact ⟨rfl, rfl⟩)
set_option exponentiation.threshold 3000 in
theorem step_bd {x : Int} (h : x.natAbs < 2 ^ 2098) : (x * ((2 ^ 6 : Nat) : Int)).natAbs < 2 ^ 3000 ∧ (x * ((2 ^ 6 : Nat) : Int) + 1).natAbs < 2 ^ 3000 ∧ (x * ((2 ^ 6 : Nat) : Int) - 1).natAbs < 2 ^ 3000 := by
  have e : (2 : Nat) ^ 3000 = 2 ^ 2098 * 2 ^ 902 := by rw [← Nat.pow_add]
  have e1 : 2 ^ 8 ≤ 2 ^ 902 := Nat.pow_le_pow_right (by decide) (by decide)
  have e2 := Nat.mul_le_mul_left (2 ^ 2098) e1
  have e3 : ((2 ^ 6 : Nat) : Int) = 64 := by decide
  have e4 : (2 : Nat) ^ 8 = 256 := by decide
  rw [← e, e4] at e2
  rw [e3]
  generalize (2 : Nat) ^ 2098 = a at *
  generalize (2 : Nat) ^ 3000 = b at *
  omega
set_option exponentiation.threshold 3000 in
set_option maxHeartbeats 1000000 in
set_option maxRecDepth 100000 in
theorem next2_bad (d : Int) (u : Nat) (hu : u < 18446744073709551616) (hf : fin u = false) (w : World) :
    Calls Tryz.prog 50 #[.int .i64 d, .int .u64 u] w fun e w' => e = optRet none ∧ Below w.heap.size w w' := by
  have HO := Lib.hid (of_calls u w.heap.size w hu)
  rw [hf] at HO
  clear hu hf
  go_enter Tryz.func50, Tryz.ntmps50
  go_wp2_with fail
  refine HO.out.mono ?_
  rintro e w1 ⟨n1, A1, l1, k1, x1, rfl, hR, hW⟩
  have H1 := Lib.hid (below_next hW (below_new (Below.refl w1.heap.size w1) (.cells #[.bool n1, .slice A1 l1 k1, .int .i64 x1] 25)))
  clear hR hW HO
  go_wp2
  go_ret2
  exact ⟨rfl, H1.out⟩
/-- the little step, laid behind a number -/
theorem step_lay {base : Nat} {w1 : World} {X : Int} {n1 : Bool} {A1 : Option Addr} {l1 k1 : Nat} {x1 : Int} (h : NumC 1074 w1 base X n1 A1 l1 k1 x1) (hb : base ≤ w1.heap.size) {W : World}
    (hW : (((w1.alloc (.cells #[.bool n1, .slice A1 l1 k1, .int .i64 x1] 25)).alloc (.cells #[.int .u32 1] 57)).alloc (.cells #[.bool false, .slice (some ⟨w1.heap.size + 1, 0, none⟩) 1 1, .int .i64 (-1080)] 25)) = W) :
    Blk W w1.heap.size 25 [.bool n1, .slice A1 l1 k1, .int .i64 x1] ∧ NumC 1080 W base (X * ((2 ^ 6 : Nat) : Int)) n1 A1 l1 k1 x1 ∧ NumC 1080 W base 1 false (some ⟨w1.heap.size + 1, 0, none⟩) 1 1 (-1080) ∧ Below w1.heap.size w1 W := by
  have hBel : Below w1.heap.size w1 W := by rw [← hW]; exact below_new (below_new (below_new (Below.refl _ _) _) _) _
  have h2 : Blk ((w1.alloc (.cells #[.bool n1, .slice A1 l1 k1, .int .i64 x1] 25)).alloc (.cells #[.int .u32 1] 57)) (w1.heap.size + 1) 57 [.int .u32 1] := by
    have := Blk.new (w1.alloc (.cells #[.bool n1, .slice A1 l1 k1, .int .i64 x1] 25)) #[.int .u32 1] 57
    simpa using this
  refine ⟨?_, (h.below hBel).raise 6, one_num ?_ (by omega), hBel⟩
  · rw [← hW]; exact ((num_blk w1 n1 A1 l1 k1 x1).alloc _).alloc _
  · rw [← hW]; exact h2.alloc _
/-- a number stored into a block of its kind -/
theorem num_store {K base b : Nat} {w0 w : World} {X : Int} {n1 n2 : Bool} {A1 A2 : Option Addr} {l1 l2 k1 k2 : Nat} {x1 x2 : Int} (hb : Blk w b 25 [.bool n2, .slice A2 l2 k2, .int .i64 x2]) (h : NumC K w base X n1 A1 l1 k1 x1) (hB : base ≤ b) (hW : Below base w0 w) {W : World}
    (e : ((w.setCell ⟨b, 0, none⟩ (.bool n1)).setCell ⟨b, 1, none⟩ (.slice A1 l1 k1)).setCell ⟨b, 2, none⟩ (.int .i64 x1) = W) :
    Blk W b 25 [.bool n1, .slice A1 l1 k1, .int .i64 x1] ∧ NumC K W base X n1 A1 l1 k1 x1 ∧ Below base w0 W := by
  subst e
  exact ⟨((hb.set 0 _).set 1 _).set 2 _, ((h.set hb hB 0 _).set (hb.set 0 _) hB 1 _).set ((hb.set 0 _).set 1 _) hB 2 _, ((hW.setCell (p := ⟨b, 0, none⟩) hB _).setCell (p := ⟨b, 1, none⟩) hB _).setCell (p := ⟨b, 2, none⟩) hB _⟩
set_option exponentiation.threshold 3000 in
set_option maxHeartbeats 1000000 in
set_option maxRecDepth 100000 in
theorem next2_fin (d : Int) (u : Nat) (hu : u < 18446744073709551616) (hf : fin u = true) (w : World) :
    Calls Tryz.prog 50 #[.int .i64 d, .int .u64 u] w fun e w' => e = optRet (rndD d 1080 (numV u * ((2 ^ 6 : Nat) : Int) + stepS d)) ∧ Below w.heap.size w w' := by
  have HO := Lib.hid (of_calls u w.heap.size w hu)
  rw [hf] at HO
  have HBD := Lib.hid (step_bd (numV_bd hu))
  clear hu hf
  have hd3 : d = 1 ∨ d = 2 ∨ (¬ d = 1 ∧ ¬ d = 2) := by omega
  rcases hd3 with rfl | rfl | ⟨h1, h2⟩
  · go_enter Tryz.func50, Tryz.ntmps50
    go_wp2_with fail
    refine HO.out.mono ?_
    rintro e w1 ⟨n1, A1, l1, k1, x1, rfl, hR, hW⟩
    have HRR := Lib.hid (And.intro hR hW)
    have hB := below_new (Below.refl w1.heap.size w1) (.cells #[.bool n1, .slice A1 l1 k1, .int .i64 x1] 25)
    have H1 := Lib.hid (num_blk w1 n1 A1 l1 k1 x1)
    obtain ⟨⟨c0, c1, c2⟩, _⟩ := three H1.out
    clear hR hW HO hB
    go_wp2_with fail
    obtain ⟨w2, hw2⟩ : ∃ W, (((w1.alloc (.cells #[.bool n1, .slice A1 l1 k1, .int .i64 x1] 25)).alloc (.cells #[.int .u32 1] 57)).alloc (.cells #[.bool false, .slice (some ⟨w1.heap.size + 1, 0, none⟩) 1 1, .int .i64 (-1080)] 25)) = W := ⟨_, rfl⟩
    have hL := step_lay HRR.out.1 HRR.out.2.size hw2
    rw [hw2]
    have HL := Lib.hid hL
    clear hL hw2
    refine (plus_c2 1080 w.heap.size 3000 (numV u * ((2 ^ 6 : Nat) : Int)) 1 n1 false A1 (some ⟨w1.heap.size + 1, 0, none⟩) l1 1 k1 1 x1 (-1080) w2 (Nat.le_trans HRR.out.2.size HL.out.2.2.2.size) HL.out.2.1 HL.out.2.2.1 HBD.out.1 (by rw [show (1 : Int).natAbs = 1 from rfl]; exact Nat.one_lt_two_pow (by decide)) (by decide) (by decide)).mono ?_
    rintro e w3 ⟨n3, A3, l3, k3, x3, rfl, hR, hW⟩
    have H3 : Hid (Blk w3 w1.heap.size 25 [.bool n1, .slice A1 l1 k1, .int .i64 x1] ∧ NumC 1080 w3 w.heap.size (numV u * ((2 ^ 6 : Nat) : Int) + 1) n3 A3 l3 k3 x3 ∧ Below w.heap.size w w3) := ⟨HL.out.1.below' hW, hR, below_next (below_next HRR.out.2 HL.out.2.2.2) hW⟩
    have hbb : w.heap.size ≤ w1.heap.size := HRR.out.2.size
    clear hR hW HL
    obtain ⟨⟨d0, d1, d2⟩, f0, f1, f2⟩ := three H3.out.1
    obtain ⟨w4, hw4⟩ : ∃ W, ((w3.setCell ⟨w1.heap.size, 0, none⟩ (.bool n3)).setCell ⟨w1.heap.size, 1, none⟩ (.slice A3 l3 k3)).setCell ⟨w1.heap.size, 2, none⟩ (.int .i64 x3) = W := ⟨_, rfl⟩
    have hS := num_store H3.out.1 H3.out.2.1 hbb H3.out.2.2 hw4
    have HS := Lib.hid hS
    clear hS
    obtain ⟨⟨e0, e1, e2⟩, _⟩ := three HS.out.1
    go_wp2_with fail
    try rw [hw4]
    refine (round_c 1 1080 w.heap.size 3000 _ n3 A3 l3 k3 x3 w4 HS.out.2.2.size HS.out.2.1 (HBD.out.2.1) (by decide) (by decide) (by decide)).mono ?_
    rintro e w5 ⟨rfl, hW⟩
    have H5 := Lib.hid (below_next HS.out.2.2 hW)
    clear hW hw4
    unfold optRet
    go_wp2
    go_ret2
    exact ⟨rfl, H5.out⟩
  · go_enter Tryz.func50, Tryz.ntmps50
    go_wp2_with fail
    refine HO.out.mono ?_
    rintro e w1 ⟨n1, A1, l1, k1, x1, rfl, hR, hW⟩
    have HRR := Lib.hid (And.intro hR hW)
    have hB := below_new (Below.refl w1.heap.size w1) (.cells #[.bool n1, .slice A1 l1 k1, .int .i64 x1] 25)
    have H1 := Lib.hid (num_blk w1 n1 A1 l1 k1 x1)
    obtain ⟨⟨c0, c1, c2⟩, _⟩ := three H1.out
    clear hR hW HO hB
    go_wp2_with fail
    obtain ⟨w2, hw2⟩ : ∃ W, (((w1.alloc (.cells #[.bool n1, .slice A1 l1 k1, .int .i64 x1] 25)).alloc (.cells #[.int .u32 1] 57)).alloc (.cells #[.bool false, .slice (some ⟨w1.heap.size + 1, 0, none⟩) 1 1, .int .i64 (-1080)] 25)) = W := ⟨_, rfl⟩
    have hL := step_lay HRR.out.1 HRR.out.2.size hw2
    rw [hw2]
    have HL := Lib.hid hL
    clear hL hw2
    refine (minus_c3 1080 w.heap.size 3000 (numV u * ((2 ^ 6 : Nat) : Int)) 1 n1 false A1 (some ⟨w1.heap.size + 1, 0, none⟩) l1 1 k1 1 x1 (-1080) w2 (Nat.le_trans HRR.out.2.size HL.out.2.2.2.size) HL.out.2.1 HL.out.2.2.1 HBD.out.1 (by rw [show (1 : Int).natAbs = 1 from rfl]; exact Nat.one_lt_two_pow (by decide)) (by decide) (by decide)).mono ?_
    rintro e w3 ⟨n3, A3, l3, k3, x3, rfl, hR, hW⟩
    have H3 : Hid (Blk w3 w1.heap.size 25 [.bool n1, .slice A1 l1 k1, .int .i64 x1] ∧ NumC 1080 w3 w.heap.size (numV u * ((2 ^ 6 : Nat) : Int) - 1) n3 A3 l3 k3 x3 ∧ Below w.heap.size w w3) := ⟨HL.out.1.below' hW, hR, below_next (below_next HRR.out.2 HL.out.2.2.2) hW⟩
    have hbb : w.heap.size ≤ w1.heap.size := HRR.out.2.size
    clear hR hW HL
    obtain ⟨⟨d0, d1, d2⟩, f0, f1, f2⟩ := three H3.out.1
    obtain ⟨w4, hw4⟩ : ∃ W, ((w3.setCell ⟨w1.heap.size, 0, none⟩ (.bool n3)).setCell ⟨w1.heap.size, 1, none⟩ (.slice A3 l3 k3)).setCell ⟨w1.heap.size, 2, none⟩ (.int .i64 x3) = W := ⟨_, rfl⟩
    have hS := num_store H3.out.1 H3.out.2.1 hbb H3.out.2.2 hw4
    have HS := Lib.hid hS
    clear hS
    obtain ⟨⟨e0, e1, e2⟩, _⟩ := three HS.out.1
    go_wp2_with fail
    try rw [hw4]
    refine (round_c 2 1080 w.heap.size 3000 _ n3 A3 l3 k3 x3 w4 HS.out.2.2.size HS.out.2.1 (HBD.out.2.2) (by decide) (by decide) (by decide)).mono ?_
    rintro e w5 ⟨rfl, hW⟩
    have H5 := Lib.hid (below_next HS.out.2.2 hW)
    clear hW hw4
    unfold optRet
    go_wp2
    go_ret2
    exact ⟨rfl, H5.out⟩
  · have hst : stepS d = 0 := by unfold stepS; rw [if_neg h1, if_neg h2]
    rw [hst, Int.add_zero]
    go_enter Tryz.func50, Tryz.ntmps50
    go_wp2_with fail
    refine HO.out.mono ?_
    rintro e w1 ⟨n1, A1, l1, k1, x1, rfl, hR, hW⟩
    have HRR := Lib.hid (And.intro hR hW)
    have H1 := Lib.hid (num_blk w1 n1 A1 l1 k1 x1)
    obtain ⟨⟨c0, c1, c2⟩, _⟩ := three H1.out
    clear hR hW HO
    obtain ⟨w2, hw2⟩ : ∃ W, (((w1.alloc (.cells #[.bool n1, .slice A1 l1 k1, .int .i64 x1] 25)).alloc (.cells #[.int .u32 1] 57)).alloc (.cells #[.bool false, .slice (some ⟨w1.heap.size + 1, 0, none⟩) 1 1, .int .i64 (-1080)] 25)) = W := ⟨_, rfl⟩
    have hL := step_lay HRR.out.1 HRR.out.2.size hw2
    have HL := Lib.hid hL
    clear hL
    obtain ⟨⟨g0, g1, g2⟩, _⟩ := three HL.out.1
    go_wp2_with fail
    try rw [hw2]
    refine (round_c d 1080 w.heap.size 3000 _ n1 A1 l1 k1 x1 w2 (Nat.le_trans HRR.out.2.size HL.out.2.2.2.size) HL.out.2.1 HBD.out.1 (by decide) (by decide) (by decide)).mono ?_
    rintro e w5 ⟨rfl, hW⟩
    have H5 := Lib.hid (below_next (below_next HRR.out.2 HL.out.2.2.2) hW)
    clear hW hw2
    unfold optRet
    go_wp2
    go_ret2
    exact ⟨rfl, H5.out⟩
end Go.Proofs.YtogjodnmegafdaaGreatFmt

namespace Go.Proofs.YtogjodnmegafdaaGreatFmt
open Go.RowKit
attribute [local go_sem ↓] Go.wp_at_zero Go.wp_at_succ

/-! ### RoundRises -/
theorem ord_le {d X Y : Int} {x y : Nat} (h : X ≤ Y) (hx : rndS d 2148 X = some x) (hy : rndS d 2148 Y = some y) : ∃ o, Ieee.double.order x y = some o ∧ (o = .lt ∨ o = .eq) := by
  obtain ⟨a, r, b, s, rfl, rfl, hr, hs, hle⟩ := rnd_mono (by decide) h d hx hy
  refine ⟨_, order_sgn hr hs, ?_⟩
  rcases Int.lt_or_eq_of_le hle with h | h
  · rw [Int.compare_eq_lt.2 h]; exact .inl rfl
  · rw [Int.compare_eq_eq.2 h]; exact .inr rfl
theorem asked_some {c d : Int} {u v : Nat} {x : Nat} (h : askS c d u v = some x) : (fin u && fin v) = true ∧ rndS d 2148 (exS c u v) = some x := by
  rcases hp : pairB d u v with _ | _
  · rw [ask_false hp] at h; cases h
  · rw [ask_true hp] at h
    have := pairB_true hp
    rw [this.1, this.2.1]
    exact ⟨rfl, h⟩
end Go.Proofs.YtogjodnmegafdaaGreatFmt

namespace Go.Proofs.YtogjodnmegafdaaGreatFmt
open Go.RowKit
attribute [local go_sem ↓] Go.wp_at_zero Go.wp_at_succ

/-! ### RoundShares -/
/-- a number of the reference in a block of its own -/
def NB (w : World) (base b : Nat) (X : Int) (neg : Bool) (A : Option Addr) (n c : Nat) (x : Int) : Prop := Blk w b 25 [.bool neg, .slice A n c, .int .i64 x] ∧ NumC 1074 w base X neg A n c x
theorem NB.below {w w' : World} {base b : Nat} {X : Int} {neg : Bool} {A : Option Addr} {n c : Nat} {x : Int} (h : NB w base b X neg A n c x) (hb : Below w.heap.size w w') : NB w' base b X neg A n c x := ⟨h.1.below' hb, h.2.below hb⟩
theorem NB.cells {w : World} {base b : Nat} {X : Int} {neg : Bool} {A : Option Addr} {n c : Nat} {x : Int} (h : NB w base b X neg A n c x) : w.cell? ⟨b, 0, none⟩ = some (.bool neg) ∧ w.cell? ⟨b, 1, none⟩ = some (.slice A n c) ∧ w.cell? ⟨b, 2, none⟩ = some (.int .i64 x) := (three h.1).1
theorem NB.new {w : World} {base : Nat} {X : Int} {neg : Bool} {A : Option Addr} {n c : Nat} {x : Int} (h : NumC 1074 w base X neg A n c x) : NB (w.alloc (.cells #[.bool neg, .slice A n c, .int .i64 x] 25)) base w.heap.size X neg A n c x := ⟨num_blk _ _ _ _ _ _, h.below (below_new (Below.refl _ _) _)⟩
theorem sign_c (K base : Nat) (X : Int) (n1 : Bool) (A1 : Option Addr) (l1 c1 : Nat) (x1 : Int) (w : World) (hx : NumC K w base X n1 A1 l1 c1 x1) :
    Calls Tryz.prog 12 #[.agg #[.bool n1, .slice A1 l1 c1, .int .i64 x1]] w fun e w' => e = .returned (.int .i64 (Int.sign X)) ∧ Below w.heap.size w w' := sign_calls K base X _ w hx
theorem turned_c (K base : Nat) (X : Int) (n1 : Bool) (A1 : Option Addr) (l1 c1 : Nat) (x1 : Int) (w : World) (hx : NumC K w base X n1 A1 l1 c1 x1) :
    Calls Tryz.prog 20 #[.agg #[.bool n1, .slice A1 l1 c1, .int .i64 x1]] w fun e w' => ∃ (neg : Bool) (A : Option Addr) (n c : Nat) (x : Int), e = .returned (.agg #[.bool neg, .slice A n c, .int .i64 x]) ∧ NumC K w' base (-X) neg A n c x ∧ Below w.heap.size w w' := by
  refine (turned_calls K base X _ w hx).mono ?_
  rintro e w' ⟨cs, rfl, hR, hW⟩
  obtain ⟨neg, A, n, c, x, rfl, hN⟩ := NumC.of hR
  exact ⟨neg, A, n, c, x, rfl, hN, hW⟩
theorem times_c2 (K J base L : Nat) (X Y : Int) (n1 n2 : Bool) (A1 A2 : Option Addr) (l1 l2 c1 c2 : Nat) (x1 x2 : Int) (w : World) (hb : base ≤ w.heap.size) (hx : NumC K w base X n1 A1 l1 c1 x1) (hy : NumC J w base Y n2 A2 l2 c2 x2) (hX : X.natAbs < 2 ^ L) (hY : Y.natAbs < 2 ^ L) (hL : L ≤ 1073741824) (hK : K ≤ 1073741824) (hJ : J ≤ 1073741824) :
    Calls Tryz.prog 15 #[.agg #[.bool n1, .slice A1 l1 c1, .int .i64 x1], .agg #[.bool n2, .slice A2 l2 c2, .int .i64 x2]] w fun e w' => ∃ (neg : Bool) (A : Option Addr) (n c : Nat) (x : Int), e = .returned (.agg #[.bool neg, .slice A n c, .int .i64 x]) ∧ NumC (K + J) w' base (X * Y) neg A n c x ∧ Below w.heap.size w w' := by
  refine (times_num K J base L X Y _ _ w hb hx hy hX hY hL hK hJ).mono ?_
  rintro e w' ⟨cs, rfl, hR, hW⟩
  obtain ⟨neg, A, n, c, x, rfl, hN⟩ := NumC.of hR
  exact ⟨neg, A, n, c, x, rfl, hN, hW⟩
theorem cmp_c (K base L : Nat) (X Y : Int) (n1 n2 : Bool) (A1 A2 : Option Addr) (l1 l2 c1 c2 : Nat) (x1 x2 : Int) (w : World) (hb : base ≤ w.heap.size) (hx : NumC K w base X n1 A1 l1 c1 x1) (hy : NumC K w base Y n2 A2 l2 c2 x2) (hX : X.natAbs < 2 ^ L) (hY : Y.natAbs < 2 ^ L) (hL : L ≤ 1073741824) (hK : K ≤ 1073741824) :
    Calls Tryz.prog 14 #[.agg #[.bool n1, .slice A1 l1 c1, .int .i64 x1], .agg #[.bool n2, .slice A2 l2 c2, .int .i64 x2]] w fun e w' => e = .returned (.int .i64 (Int.sign (X - Y))) ∧ Below w.heap.size w w' := cmp_num K base L X Y _ _ w hb hx hy hX hY hL hK
set_option exponentiation.threshold 6000 in
theorem raise_bd {x : Int} (h : x.natAbs < 2 ^ 2098) : (x * ((2 ^ 1074 : Nat) : Int)).natAbs < 2 ^ 5000 := by
  rw [Int.natAbs_mul, Int.natAbs_natCast]
  have h1 := Nat.mul_lt_mul_of_pos_right h (Nat.pow_pos (n := 1074) (a := 2) (by decide))
  rw [← Nat.pow_add] at h1
  exact Nat.lt_of_lt_of_le h1 (Nat.pow_le_pow_right (by decide) (by decide))
set_option exponentiation.threshold 6000 in
theorem prod_bd {x y : Int} (h : x.natAbs < 2 ^ 2098) (k : y.natAbs < 2 ^ 2098) : (x * y).natAbs < 2 ^ 5000 := by
  rw [Int.natAbs_mul]
  refine Nat.lt_of_lt_of_le (Nat.mul_lt_mul'' h k) ?_
  rw [← Nat.pow_add]
  exact Nat.pow_le_pow_right (by decide) (by decide)
set_option maxHeartbeats 4000000 in
set_option maxRecDepth 100000 in
theorem shares_bad (u v : Nat) (hu : u < 18446744073709551616) (hv : v < 18446744073709551616) (hf : fin u = false ∨ (fin u = true ∧ fin v = false) ∨ (fin u = true ∧ fin v = true ∧ Int.sign (numV v) = 0)) (h2 : divS 2 u v = none) (h1 : divS 1 u v = none) (w : World) :
    Calls Tryz.prog 3 #[.float .f64 u, .float .f64 v] w fun e w' => e = .returned (.bool true) ∧ Below w.heap.size w w' := by
  have HB := Lib.hid (And.intro hu hv)
  have HD2 := Lib.hid (fun W => rdiv_calls 2 u v hu hv W)
  have HD1 := Lib.hid (fun W => rdiv_calls 1 u v hu hv W)
  rw [h2] at HD2
  rw [h1] at HD1
  clear hu hv h2 h1
  go_enter Tryz.func3, Tryz.ntmps3
  go_wp2_with fail
  refine (lnum_calls u w.heap.size w HB.out.1 (Nat.le_refl _)).mono ?_
  rintro e w1 ⟨n1, A1, l1, c1, x1, rfl, hR, hW⟩
  have hB := below_new (Below.refl w1.heap.size w1) (.cells #[.bool n1, .slice A1 l1 c1, .int .i64 x1] 25)
  have H1 := Lib.hid (And.intro (NB.new hR) (below_next hW hB))
  clear hR hW hB
  go_wp2_with fail
  refine (lnum_calls v w.heap.size _ HB.out.2 H1.out.2.size).mono ?_
  rintro e w2 ⟨n2, A2, l2, c2, x2, rfl, hR, hW⟩
  have hB := below_new (Below.refl w2.heap.size w2) (.cells #[.bool n2, .slice A2 l2 c2, .int .i64 x2] 25)
  have hb1 := below_next hW hB
  have H2 := Lib.hid (And.intro (NB.new hR) (below_next H1.out.2 hb1))
  clear hR hW hB hb1 H1
  go_wp2_with fail
  refine (HD2.out _).mono ?_
  rintro e w3 ⟨rfl, hW⟩
  have H3 := Lib.hid (And.intro (H2.out.1.below hW) (below_next H2.out.2 hW))
  clear hW H2
  unfold fRet2
  go_wp2_with fail
  refine (HD1.out _).mono ?_
  rintro e w4 ⟨rfl, hW⟩
  have H4 := Lib.hid (And.intro (H3.out.1.below hW) (below_next H3.out.2 hW))
  clear hW H3
  unfold fRet2
  simp only [Option.getD_none, Option.isSome_none]
  rcases hf with hf | ⟨hf, hg⟩ | ⟨hf, hg, hs⟩
  · rw [hf]
    clear hf
    go_wp2_with fail
    refine (started_calls _).mono ?_
    rintro e w6 ⟨rfl, hW⟩
    have H6 := Lib.hid (below_next H4.out.2 hW)
    clear hW
    go_wp2
    go_ret
    exact ⟨rfl, H6.out⟩
  · rw [hf, hg]
    clear hf hg
    go_wp2_with fail
    refine (started_calls _).mono ?_
    rintro e w6 ⟨rfl, hW⟩
    have H6 := Lib.hid (below_next H4.out.2 hW)
    clear hW
    go_wp2
    go_ret
    exact ⟨rfl, H6.out⟩
  · rw [hf, hg]
    obtain ⟨y0, y1, y2⟩ := H4.out.1.cells
    have HS := Lib.hid (sign_c 1074 w.heap.size _ n2 A2 l2 c2 x2 w4 H4.out.1.2)
    rw [hs] at HS
    clear hf hg hs
    go_wp2_with fail
    refine HS.out.mono ?_
    rintro e w5 ⟨rfl, hW⟩
    have H5 := Lib.hid (below_next H4.out.2 hW)
    clear hW
    go_wp2_with fail
    refine (started_calls _).mono ?_
    rintro e w6 ⟨rfl, hW⟩
    have H6 := Lib.hid (below_next H5.out hW)
    clear hW
    go_wp2
    go_ret
    exact ⟨rfl, H6.out⟩
end Go.Proofs.YtogjodnmegafdaaGreatFmt

namespace Go.Proofs.YtogjodnmegafdaaGreatFmt
open Go.RowKit
attribute [local go_sem ↓] Go.wp_at_zero Go.wp_at_succ

/-! ### RoundShares, where there is a quotient -/
theorem bne_f' {a b : Option Ordering} (h : (a == b) = true) : (a != b) = false := by simp [bne, h]
theorem bne_t' {a b : Option Ordering} (h : (a == b) = false) : (a != b) = true := by simp [bne, h]
/-- the four numbers in their blocks -/
structure Four (w0 w : World) (base b5 b7 b13 b15 : Nat) (X Y P Q : Int) (n1 n2 n3 n4 : Bool) (A1 A2 A3 A4 : Option Addr) (l1 l2 l3 l4 c1 c2 c3 c4 : Nat) (x1 x2 x3 x4 : Int) : Prop where
  x : NB w base b5 X n1 A1 l1 c1 x1
  y : NB w base b7 Y n2 A2 l2 c2 x2
  p : NB w base b13 P n3 A3 l3 c3 x3
  q : NB w base b15 Q n4 A4 l4 c4 x4
  bel : Below w0.heap.size w0 w
theorem Four.below {w0 w w' : World} {base b5 b7 b13 b15 : Nat} {X Y P Q : Int} {n1 n2 n3 n4 : Bool} {A1 A2 A3 A4 : Option Addr} {l1 l2 l3 l4 c1 c2 c3 c4 : Nat} {x1 x2 x3 x4 : Int} (h : Four w0 w base b5 b7 b13 b15 X Y P Q n1 n2 n3 n4 A1 A2 A3 A4 l1 l2 l3 l4 c1 c2 c3 c4 x1 x2 x3 x4) (hb : Below w.heap.size w w') :
    Four w0 w' base b5 b7 b13 b15 X Y P Q n1 n2 n3 n4 A1 A2 A3 A4 l1 l2 l3 l4 c1 c2 c3 c4 x1 x2 x3 x4 := ⟨h.x.below hb, h.y.below hb, h.p.below hb, h.q.below hb, below_next h.bel hb⟩
theorem wrap_one {s c : Int} (hs : s = 1 ∨ s = -1) (hc : -1 ≤ c ∧ c ≤ 1) : wrap64 (s * c) = s * c := by
  unfold wrap64
  rcases hs with rfl | rfl
  · omega
  · omega
theorem wrap_one' {s c : Int} (hs : s = 1 ∨ s = -1) (hc : -1 ≤ c ∧ c ≤ 1) : IntKind.i64.wrap (s * c) = s * c := by
  refine IntWalk.i64_in _ ?_
  rcases hs with rfl | rfl
  · omega
  · omega
theorem sign_in (x : Int) : -1 ≤ Int.sign x ∧ Int.sign x ≤ 1 := by
  rcases Int.lt_trichotomy x 0 with h | h | h
  · rw [Int.sign_eq_neg_one_of_neg h]; decide
  · subst h; decide
  · rw [Int.sign_eq_one_of_pos h]; decide
theorem low_cases {s t : Int} (hs : s = 1 ∨ s = -1) (ht : -1 ≤ t ∧ t ≤ 1) (h : ¬ (0 < s * t)) : (s = 1 ∧ t = -1) ∨ (s = 1 ∧ t = 0) ∨ (s = -1 ∧ t = 0) ∨ (s = -1 ∧ t = 1) := by
  rcases hs with rfl | rfl
  · omega
  · omega
theorem high_cases {s t : Int} (hs : s = 1 ∨ s = -1) (ht : -1 ≤ t ∧ t ≤ 1) (h : ¬ (s * t < 0)) : (s = 1 ∧ t = 1) ∨ (s = 1 ∧ t = 0) ∨ (s = -1 ∧ t = 0) ∨ (s = -1 ∧ t = -1) := by
  rcases hs with rfl | rfl
  · omega
  · omega
theorem both_cases {s t r : Int} (hs : s = 1 ∨ s = -1) (ht : -1 ≤ t ∧ t ≤ 1) (hr : -1 ≤ r ∧ r ≤ 1) (h : ¬ (0 < s * t)) (k : ¬ (s * r < 0)) :
    (s = 1 ∧ t = -1 ∧ r = 1) ∨ (s = 1 ∧ t = -1 ∧ r = 0) ∨ (s = 1 ∧ t = 0 ∧ r = 1) ∨ (s = 1 ∧ t = 0 ∧ r = 0) ∨ (s = -1 ∧ t = 1 ∧ r = -1) ∨ (s = -1 ∧ t = 1 ∧ r = 0) ∨ (s = -1 ∧ t = 0 ∧ r = -1) ∨ (s = -1 ∧ t = 0 ∧ r = 0) := by
  rcases hs with rfl | rfl
  · omega
  · omega
theorem ends_cases {s t r : Int} (hs : s = 1 ∨ s = -1) (ht : -1 ≤ t ∧ t ≤ 1) (hr : -1 ≤ r ∧ r ≤ 1) (h : ¬ (0 < s * t)) (k : ¬ (s * r < 0)) (ht0 : ¬ t = 0) (hr0 : ¬ r = 0) : (s = 1 ∧ t = -1 ∧ r = 1) ∨ (s = -1 ∧ t = 1 ∧ r = -1) := by
  rcases hs with rfl | rfl
  · omega
  · omega
theorem numV_fin {u : Nat} (h : fin u = true) : numV u = fv u := by unfold numV; rw [h, if_pos rfl]
/-- what the walk wants to know -/
structure ShareF (u v zp zq : Nat) (b2 b1 : Bool) (s : Int) (o0 : Option Nat) : Prop where
  up : zp < 18446744073709551616
  uq : zq < 18446744073709551616
  s1 : s = 1 ∨ s = -1
  any : b2 = true ∨ b1 = true
  lo : b2 = true → ¬ (0 < s * Int.sign (numV zp * numV v - numV u * ((2 ^ 1074 : Nat) : Int)))
  hi : b1 = true → ¬ (s * Int.sign (numV zq * numV v - numV u * ((2 ^ 1074 : Nat) : Int)) < 0)
  both : b2 = true → b1 = true → (FloatKind.f64.format.order zp zq == some .eq) = true ∨ ((FloatKind.f64.format.order zp zq == some .eq) = false ∧ nextS 1 zp = some zq ∧ (FloatKind.f64.format.order zq zq == some .eq) = true ∧ o0.isSome = true ∧
    ((FloatKind.f64.format.order (o0.getD 0) zp == some .eq) = true ∨ ((FloatKind.f64.format.order (o0.getD 0) zp == some .eq) = false ∧ (FloatKind.f64.format.order (o0.getD 0) zq == some .eq) = true)) ∧ ¬ Int.sign (numV zp * numV v - numV u * ((2 ^ 1074 : Nat) : Int)) = 0 ∧ ¬ Int.sign (numV zq * numV v - numV u * ((2 ^ 1074 : Nat) : Int)) = 0)
theorem ord_beq {x y : Nat} (h : Ieee.double.order x y = some .eq) : (FloatKind.f64.format.order x y == some .eq) = true := by
  have h' : FloatKind.f64.format.order x y = some .eq := h
  rw [h']; rfl
theorem ord_bne {x y : Nat} (h : Ieee.double.order x y ≠ some .eq) : (FloatKind.f64.format.order x y == some .eq) = false := by
  have h' : FloatKind.f64.format.order x y ≠ some .eq := h
  simpa using h'
theorem share_facts {u v : Nat} (hu : u < 18446744073709551616) (hv : v < 18446744073709551616) (fu : fin u = true) (fv' : fin v = true) (hv0 : uabs v ≠ 0) : ShareF u v ((divS 2 u v).getD 0) ((divS 1 u v).getD 0) (divS 2 u v).isSome (divS 1 u v).isSome (Int.sign (numV v)) (divS 0 u v) := by
  have S := share_law hu hv fu fv' hv0
  have hB := rv_pos hv0
  have hs : Int.sign (numV v) = 1 ∨ Int.sign (numV v) = -1 := by
    rw [numV_fin fv', fv_zero_iff hv fv', sign_sgv _ hB]
    cases fneg v
    · exact .inl rfl
    · exact .inr rfl
  obtain ⟨o2, h2⟩ : ∃ o, divS 2 u v = o := ⟨_, rfl⟩
  obtain ⟨o1, h1⟩ : ∃ o, divS 1 u v = o := ⟨_, rfl⟩
  rw [h2, h1] at S ⊢
  have hlo : ∀ p, o2 = some p → p < 18446744073709551616 ∧ (numV p * numV v - numV u * ((2 ^ 1074 : Nat) : Int)).sign = shareS p u v ∧ ¬ (0 < Int.sign (numV v) * shareS p u v) := by
    intro p hp
    obtain ⟨a, b, c⟩ := S.lw p hp
    rw [numV_fin b, numV_fin fu, numV_fin fv']
    exact ⟨a, rfl, by omega⟩
  have hhi : ∀ p, o1 = some p → p < 18446744073709551616 ∧ (numV p * numV v - numV u * ((2 ^ 1074 : Nat) : Int)).sign = shareS p u v ∧ ¬ (Int.sign (numV v) * shareS p u v < 0) := by
    intro p hp
    obtain ⟨a, b, c⟩ := S.hw p hp
    rw [numV_fin b, numV_fin fu, numV_fin fv']
    exact ⟨a, rfl, by omega⟩
  refine ⟨?_, ?_, hs, S.any, ?_, ?_, ?_⟩
  · cases o2 with
    | none => decide
    | some p => exact (hlo p rfl).1
  · cases o1 with
    | none => decide
    | some p => exact (hhi p rfl).1
  · intro h
    cases o2 with
    | none => cases h
    | some p =>
      obtain ⟨-, e, k⟩ := hlo p rfl
      show ¬ (0 < Int.sign (numV v) * (numV p * numV v - numV u * ((2 ^ 1074 : Nat) : Int)).sign)
      rw [e]; exact k
  · intro h
    cases o1 with
    | none => cases h
    | some p =>
      obtain ⟨-, e, k⟩ := hhi p rfl
      show ¬ (Int.sign (numV v) * (numV p * numV v - numV u * ((2 ^ 1074 : Nat) : Int)).sign < 0)
      rw [e]; exact k
  · intro g1 g2
    cases o2 with
    | none => cases g1
    | some p =>
      cases o1 with
      | none => cases g2
      | some q =>
        obtain ⟨-, e1, -⟩ := hlo p rfl
        obtain ⟨-, e2, -⟩ := hhi q rfl
        rcases S.both p q rfl rfl with h | ⟨a, b, c, d, e⟩
        · exact .inl (ord_beq h)
        · right
          refine ⟨ord_bne a, b, ?_, ?_, ?_, ?_, ?_⟩
          · obtain ⟨n, r, rfl, hr⟩ := div_fin h1
            exact ord_beq (sgn_self hr)
          · rcases c with c | c <;> rw [c] <;> rfl
          · rcases c with c | c
            · left
              rw [c]
              obtain ⟨n, r, rfl, hr⟩ := div_fin h2
              exact ord_beq (sgn_self hr)
            · by_cases hpq : Ieee.double.order q p = some .eq
              · left; rw [c]; exact ord_beq hpq
              · right
                rw [c]
                obtain ⟨n, r, rfl, hr⟩ := div_fin h1
                exact ⟨ord_bne hpq, ord_beq (sgn_self hr)⟩
          · show ¬ (numV p * numV v - numV u * ((2 ^ 1074 : Nat) : Int)).sign = 0
            rw [e1]; exact d
          · show ¬ (numV q * numV v - numV u * ((2 ^ 1074 : Nat) : Int)).sign = 0
            rw [e2]; exact e
end Go.Proofs.YtogjodnmegafdaaGreatFmt
