import Derived.Test.YtogjodnmegafdaaGreatFmtJ46
import Derived.Test.YtogjodnmegafdaaGreatFmtJ41
import Derived.Test.YtogjodnmegafdaaGreatFmtJ24
set_option linter.unusedVariables false
set_option linter.unusedSimpArgs false
namespace Go.Proofs.YtogjodnmegafdaaGreatFmt
open Go.RowKit

/-! ### ref2.Over: its parts -/
theorem NumC.sign {K base : Nat} {w : World} {X : Int} {neg : Bool} {A : Option Addr} {n c : Nat} {x : Int} (h : NumC K w base X neg A n c x) (h0 : X ≠ 0) : neg = decide (X < 0) := by
  obtain ⟨neg', m, e, v, hcs, hm, he, heb, hX⟩ := h
  cases hcs
  rw [hX] at h0 ⊢
  generalize m * 2 ^ (x + K).toNat = q at *
  cases neg
  · simp only [sg, Bool.false_eq_true, if_false] at h0 ⊢
    rw [decide_eq_false (by omega)]
  · simp only [sg, if_true] at h0 ⊢
    rw [decide_eq_true (by omega)]
/-- the mantissa of a number that is not nought -/
theorem NumC.man {K base : Nat} {w : World} {X : Int} {neg : Bool} {A : Option Addr} {n c : Nat} {x : Int} (h : NumC K w base X neg A n c x) (h0 : X ≠ 0) : ∃ m : Nat, mRd.R w base m [.slice A n c] ∧ m ≠ 0 ∧ 0 ≤ x + K ∧ (-1099511627776 ≤ x ∧ x ≤ 1099511627776) ∧ X.natAbs = m * 2 ^ (x + K).toNat ∧ bl X.natAbs = bl m + (x + K).toNat := by
  obtain ⟨neg', m, e, v, hcs, hm, he, heb, hX⟩ := h
  cases hcs
  have hm0 : m ≠ 0 := by rintro rfl; rw [Nat.zero_mul, sg_zero] at hX; exact h0 hX
  have e1 : X.natAbs = m * 2 ^ (x + K).toNat := by rw [hX, sg_abs]
  exact ⟨m, hm, hm0, he hm0, heb, e1, by rw [e1, bl_mul_pow hm0]⟩
/-- of a nought there is no word -/
theorem NumC.len0 {K base : Nat} {w : World} {X : Int} {neg : Bool} {A : Option Addr} {n c : Nat} {x : Int} (h : NumC K w base X neg A n c x) : n = 0 ↔ X = 0 := by
  obtain ⟨neg', m, e, v, hcs, hm, he, heb, hX⟩ := h
  cases hcs
  obtain ⟨xs, A', c', hv, h1, h2, h3, h4⟩ := hm
  cases hv
  have hz := h3.nil_iff (B := B32) (by decide)
  rw [h4] at hz
  rw [hz, hX]
  have hp : 0 < 2 ^ (x + K).toNat := Nat.pow_pos (by decide)
  constructor
  · rintro rfl; rw [Nat.zero_mul, sg_zero]
  · intro h
    have : (sg neg (m * 2 ^ (x + K).toNat)).natAbs = 0 := by rw [h]; rfl
    rw [sg_abs] at this
    rcases Nat.mul_eq_zero.1 this with h | h
    · exact h
    · omega
/-- the same cells without the sign -/
theorem NumC.pos {K base : Nat} {w : World} {X : Int} {neg : Bool} {A : Option Addr} {n c : Nat} {x : Int} (h : NumC K w base X neg A n c x) : NumC K w base (X.natAbs : Int) false A n c x := by
  obtain ⟨neg', m, e, v, hcs, hm, he, heb, hX⟩ := h
  cases hcs
  exact ⟨false, m, x, _, rfl, hm, he, heb, by rw [hX, sg_abs]; rfl⟩
theorem part_num (K base L X Y : Nat) (A1 A2 : Option Addr) (l1 l2 k1 k2 : Nat) (x1 x2 : Int) (w : World) (hb : base ≤ w.heap.size) (hx : NumC K w base (X : Int) false A1 l1 k1 x1) (hy : NumC K w base (Y : Int) false A2 l2 k2 x2) (h0x : X ≠ 0) (h0y : Y ≠ 0) (hX : X < 2 ^ L) (hY : Y < 2 ^ L) (hL : L ≤ 1073741824) :
    Calls Tryz.prog 107 #[.agg #[.bool false, .slice A1 l1 k1, .int .i64 x1], .agg #[.bool false, .slice A2 l2 k2, .int .i64 x2]] w fun r w' =>
      ∃ v', r = .returned (.tuple #[.agg #[.bool false, v', .int .i64 0], .bool (restB (X % Y))]) ∧ mRd.R w' base (X / Y) [v'] ∧ Below w.heap.size w w' := by
  obtain ⟨m1, a1, a2, a3, a4, a5, -⟩ := hx.man (by omega)
  obtain ⟨m2, b1, b2, b3, b4, b5, -⟩ := hy.man (by omega)
  rw [Int.natAbs_natCast] at a5 b5
  exact part_calls K base L x1 x2 m1 m2 _ _ w hb a1 b1 a2 b2 a3 b3 a4 b4 (by rw [sg_abs, ← a5]; exact hX) (by rw [sg_abs, ← b5]; exact hY) hL X Y a5.symm b5.symm
theorem len_num (K base L : Nat) (X : Int) (neg : Bool) (A : Option Addr) (l k : Nat) (x : Int) (w : World) (hx : NumC K w base X neg A l k x) (h0 : X ≠ 0) (hX : X.natAbs < 2 ^ L) (hL : L ≤ 1073741824) :
    ∃ b : Nat, (b : Int) + x + K = bl X.natAbs ∧ b ≤ L ∧ ∀ W, Below w.heap.size w W → Calls Tryz.prog 103 #[.slice A l k] W fun e w' => e = .returned (.int .i64 (b : Int)) ∧ W = w' := by
  obtain ⟨m, h1, h2, h3, h4, h5, h6⟩ := hx.man h0
  obtain ⟨xs, A', c', hv, g1, g2, g3, g4⟩ := h1
  cases hv
  have hm : m < 2 ^ L := by
    refine Nat.lt_of_le_of_lt ?_ hX
    rw [h5]; exact Nat.le_mul_of_pos_right _ (Nat.pow_pos (by decide))
  have hl := man_len g3 g4 hm
  refine ⟨bl m, by omega, bl_le_of_lt hm, fun W hW => ?_⟩
  have := length_calls A xs.length k 57 base xs W rfl (g2.below hW) (by omega) g3
  rw [g4] at this
  exact this
end Go.Proofs.YtogjodnmegafdaaGreatFmt
