/- Walks and plain laws of this seat's functions, part 33: R3c R5. -/
import Derived.Test.YtikdhkmcdmnadaaGreatFmtJ06
import Derived.Test.YtikdhkmcdmnadaaGreatFmtJ08
import Derived.Test.YtikdhkmcdmnadaaGreatFmtJ10
set_option linter.unusedVariables false
set_option linter.unusedSimpArgs false
namespace Go.Proofs.YtikdhkmcdmnadaaGreatFmt
open Go.RowKit

/-! ### numbers of the reference, their cells written out -/
def stepS (d : Int) : Int := if d = 1 then 1 else if d = 2 then -1 else 0
def numV (u : Nat) : Int := if fin u then fv u else 0
theorem fexp_bad {u : Nat} (h : fin u = false) : fexp u = 2047 := by unfold fin at h; simpa using h
/-- a number of the reference, its cells written out -/
def NumC (K : Nat) (w : World) (base : Nat) (X : Int) (neg : Bool) (A : Option Addr) (n c : Nat) (x : Int) : Prop := (numRd K).R w base X [.bool neg, .slice A n c, .int .i64 x]
theorem NumC.of {K : Nat} {w : World} {base : Nat} {X : Int} {cs : List Value} (h : (numRd K).R w base X cs) : ∃ (neg : Bool) (A : Option Addr) (n c : Nat) (x : Int), cs = [.bool neg, .slice A n c, .int .i64 x] ∧ NumC K w base X neg A n c x := by
  have h' := h
  obtain ⟨neg, m, x, v, rfl, ⟨xs, A, c, hv, _⟩, _⟩ := h'
  cases hv
  exact ⟨neg, A, _, c, x, rfl, h⟩
theorem NumC.set {K : Nat} {w : World} {base b : Nat} {X : Int} {neg : Bool} {A : Option Addr} {n c : Nat} {x : Int} {cs : List Value} (h : NumC K w base X neg A n c x) (hb : Blk w b 38 cs) (hbase : base ≤ b) (i : Nat) (u : Value) : NumC K (w.setCell ⟨b, i, none⟩ u) base X neg A n c x :=
  numRd_setNT h ⟨38, cs, by decide, hb⟩ hbase i u
theorem NumC.below {K : Nat} {w w' : World} {base : Nat} {X : Int} {neg : Bool} {A : Option Addr} {n c : Nat} {x : Int} (h : NumC K w base X neg A n c x) (hb : Below w.heap.size w w') : NumC K w' base X neg A n c x := (numRd K).below h hb
theorem num_zero (K : Nat) (w : World) (base : Nat) : NumC K w base 0 false none 0 0 0 :=
  ⟨false, 0, 0, .slice none 0 0, rfl, ⟨[], none, 0, rfl, Nat.le_refl _, Rd.Row.nil _ _ _ _ _, .inl rfl, rfl⟩, fun h => absurd rfl h, by decide, by rw [Nat.zero_mul]; rfl⟩
theorem of_calls (u base : Nat) (w : World) (hu : u < 18446744073709551616) :
    Calls Tryz.prog 22 #[.int .u64 u] w fun e w' => ∃ (neg : Bool) (A : Option Addr) (n c : Nat) (x : Int), e = .returned (.tuple #[.agg #[.bool neg, .slice A n c, .int .i64 x], .bool (fin u)]) ∧ NumC 1074 w' base (numV u) neg A n c x ∧ Below w.heap.size w w' := by
  unfold numV
  rcases h : fin u with _ | _
  · refine (of_bad u w hu (fexp_bad h)).mono ?_
    rintro e w' ⟨rfl, hW⟩
    exact ⟨false, none, 0, 0, 0, rfl, num_zero _ _ _, hW⟩
  · refine (of_fin u base w hu h).mono ?_
    rintro e w' ⟨cs, rfl, hR, hW⟩
    obtain ⟨neg, A, n, c, x, rfl, hN⟩ := NumC.of hR
    exact ⟨neg, A, n, c, x, rfl, hN, hW⟩
theorem three {w : World} {b t : Nat} {x0 x1 x2 : Value} (h : Blk w b t [x0, x1, x2]) : (w.cell? ⟨b, 0, none⟩ = some x0 ∧ w.cell? ⟨b, 1, none⟩ = some x1 ∧ w.cell? ⟨b, 2, none⟩ = some x2) ∧ (w.frozen? ⟨b, 0, none⟩ = false ∧ w.frozen? ⟨b, 1, none⟩ = false ∧ w.frozen? ⟨b, 2, none⟩ = false) :=
  ⟨⟨h.cell 0, h.cell 1, h.cell 2⟩, h.frozen 0, h.frozen 1, h.frozen 2⟩
theorem num_new (w : World) : Blk (w.alloc (.cells #[.bool false, .slice none 0 0, .int .i64 0] 38)) w.heap.size 38 [.bool false, .slice none 0 0, .int .i64 0] := Blk.new _ _ _
theorem NumC.raise {K : Nat} {w : World} {base : Nat} {X : Int} {neg : Bool} {A : Option Addr} {n c : Nat} {x : Int} (h : NumC K w base X neg A n c x) (J : Nat) : NumC (K + J) w base (X * ((2 ^ J : Nat) : Int)) neg A n c x := by
  obtain ⟨neg', m, e, v, hcs, hm, he, heb, hX⟩ := h
  refine ⟨neg', m, e, v, hcs, hm, fun h => by have := he h; omega, heb, ?_⟩
  by_cases h0 : m = 0
  · subst h0; rw [hX, Nat.zero_mul, Nat.zero_mul, sg_zero, Int.zero_mul]
  · have := he h0
    rw [hX, sg_pow, Nat.mul_assoc, ← Nat.pow_add]
    congr 3
    omega
/-- a number's three cells in a block: load, call -/
theorem num_blk (w : World) (neg : Bool) (A : Option Addr) (n c : Nat) (x : Int) : Blk (w.alloc (.cells #[.bool neg, .slice A n c, .int .i64 x] 38)) w.heap.size 38 [.bool neg, .slice A n c, .int .i64 x] := Blk.new _ _ _
end Go.Proofs.YtikdhkmcdmnadaaGreatFmt

namespace Go.Proofs.YtikdhkmcdmnadaaGreatFmt
open Go.RowKit


/-! ### ref2.Next, ref2.Scale -/
theorem round_c (d : Int) (K base L : Nat) (X : Int) (n1 : Bool) (A1 : Option Addr) (l1 c1 : Nat) (x1 : Int) (w : World) (hbase : base ≤ w.heap.size) (h : NumC K w base X n1 A1 l1 c1 x1) (hX : X.natAbs < 2 ^ L) (hL : L ≤ 536870912) (hK0 : 1074 < K) (hK : K ≤ 536870912) :
    Calls Tryz.prog 24 #[.int .i64 d, .agg #[.bool n1, .slice A1 l1 c1, .int .i64 x1]] w fun r w' => r = optRet (rndD d K X) ∧ Below w.heap.size w w' := roundd_calls d K base L X _ w hbase h hX hL hK0 hK
theorem plus_c2 (K base L : Nat) (X Y : Int) (n1 n2 : Bool) (A1 A2 : Option Addr) (l1 l2 c1 c2 : Nat) (x1 x2 : Int) (w : World) (hb : base ≤ w.heap.size) (hx : NumC K w base X n1 A1 l1 c1 x1) (hy : NumC K w base Y n2 A2 l2 c2 x2) (hX : X.natAbs < 2 ^ L) (hY : Y.natAbs < 2 ^ L) (hL : L ≤ 1073741824) (hK : K ≤ 1073741824) :
    Calls Tryz.prog 52 #[.agg #[.bool n1, .slice A1 l1 c1, .int .i64 x1], .agg #[.bool n2, .slice A2 l2 c2, .int .i64 x2]] w fun e w' => ∃ (neg : Bool) (A : Option Addr) (n c : Nat) (x : Int), e = .returned (.agg #[.bool neg, .slice A n c, .int .i64 x]) ∧ NumC K w' base (X + Y) neg A n c x ∧ Below w.heap.size w w' := by
  refine (plus_num K base L X Y _ _ w hb hx hy hX hY hL hK).mono ?_
  rintro e w' ⟨cs, rfl, hR, hW⟩
  obtain ⟨neg, A, n, c, x, rfl, hN⟩ := NumC.of hR
  exact ⟨neg, A, n, c, x, rfl, hN, hW⟩
theorem minus_c3 (K base L : Nat) (X Y : Int) (n1 n2 : Bool) (A1 A2 : Option Addr) (l1 l2 c1 c2 : Nat) (x1 x2 : Int) (w : World) (hb : base ≤ w.heap.size) (hx : NumC K w base X n1 A1 l1 c1 x1) (hy : NumC K w base Y n2 A2 l2 c2 x2) (hX : X.natAbs < 2 ^ L) (hY : Y.natAbs < 2 ^ L) (hL : L ≤ 1073741824) (hK : K ≤ 1073741824) :
    Calls Tryz.prog 34 #[.agg #[.bool n1, .slice A1 l1 c1, .int .i64 x1], .agg #[.bool n2, .slice A2 l2 c2, .int .i64 x2]] w fun e w' => ∃ (neg : Bool) (A : Option Addr) (n c : Nat) (x : Int), e = .returned (.agg #[.bool neg, .slice A n c, .int .i64 x]) ∧ NumC K w' base (X - Y) neg A n c x ∧ Below w.heap.size w w' := by
  refine (minus_num K base L X Y _ _ w hb hx hy hX hY hL hK).mono ?_
  rintro e w' ⟨cs, rfl, hR, hW⟩
  obtain ⟨neg, A, n, c, x, rfl, hN⟩ := NumC.of hR
  exact ⟨neg, A, n, c, x, rfl, hN, hW⟩
theorem one_num {w : World} {base g : Nat} (h : Blk w g 58 [.int .u32 1]) (hg : base ≤ g) : NumC 1080 w base 1 false (some ⟨g, 0, none⟩) 1 1 (-1080) :=
  ⟨false, 1, -1080, _, rfl, (mRd_trim (zs := [1]) (n := 1) (c := 1) h (by intro d hd; simp at hd; subst hd; decide) rfl (Nat.le_refl _) rfl), fun _ => by decide, by decide, by decide⟩
end Go.Proofs.YtikdhkmcdmnadaaGreatFmt
