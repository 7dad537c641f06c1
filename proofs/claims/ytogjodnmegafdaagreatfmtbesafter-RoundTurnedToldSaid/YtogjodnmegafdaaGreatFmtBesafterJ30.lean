/- Walks and plain laws of this seat's functions, part 30: R3c. -/
import Derived.Test.YtogjodnmegafdaaGreatFmtBesafterJ02
import Derived.Test.YtogjodnmegafdaaGreatFmtBesafterJ03
import Derived.Test.YtogjodnmegafdaaGreatFmtBesafterJ05
set_option linter.unusedVariables false
set_option linter.unusedSimpArgs false
namespace Go.Proofs.YtogjodnmegafdaaGreatFmtBesafter
open Go.RowKit

/-! ### numbers of the reference, their cells written out -/
def stepS (d : Int) : Int := if d = 1 then 1 else if d = 2 then -1 else 0
def numV (u : Nat) : Int := if fin u then fv u else 0
theorem fexp_bad {u : Nat} (h : fin u = false) : fexp u = 2047 := by unfold fin at h; simpa using h
/-- a number of the reference, its cells written out -/
def NumC (K : Nat) (w : World) (base : Nat) (X : Int) (neg : Bool) (A : Option Addr) (n c : Nat) (x : Int) : Prop := (numRd K).R w base X [.bool neg, .slice A n c, .int .i64 x]
theorem NumC.of {K : Nat} {w : World} {base : Nat} {X : Int} {cs : List Value} (h : (numRd K).R w base X cs) : ∃ (neg : Bool) (A : Option Addr) (n c : Nat) (x : Int), cs = [.bool neg, .slice A n c, .int .i64 x] ∧ NumC K w base X neg A n c x := by
  have h' := h
  obtain ⟨neg, m, x, v, rfl, ⟨xs, A, c, hv, _⟩, _⟩ := h'
  cases hv
  exact ⟨neg, A, _, c, x, rfl, h⟩
theorem NumC.below {K : Nat} {w w' : World} {base : Nat} {X : Int} {neg : Bool} {A : Option Addr} {n c : Nat} {x : Int} (h : NumC K w base X neg A n c x) (hb : Below w.heap.size w w') : NumC K w' base X neg A n c x := (numRd K).below h hb
theorem num_zero (K : Nat) (w : World) (base : Nat) : NumC K w base 0 false none 0 0 0 :=
  ⟨false, 0, 0, .slice none 0 0, rfl, ⟨[], none, 0, rfl, Nat.le_refl _, Rd.Row.nil _ _ _ _ _, .inl rfl, rfl⟩, fun h => absurd rfl h, by decide, by rw [Nat.zero_mul]; rfl⟩
theorem three {w : World} {b t : Nat} {x0 x1 x2 : Value} (h : Blk w b t [x0, x1, x2]) : (w.cell? ⟨b, 0, none⟩ = some x0 ∧ w.cell? ⟨b, 1, none⟩ = some x1 ∧ w.cell? ⟨b, 2, none⟩ = some x2) ∧ (w.frozen? ⟨b, 0, none⟩ = false ∧ w.frozen? ⟨b, 1, none⟩ = false ∧ w.frozen? ⟨b, 2, none⟩ = false) :=
  ⟨⟨h.cell 0, h.cell 1, h.cell 2⟩, h.frozen 0, h.frozen 1, h.frozen 2⟩
theorem NumC.raise {K : Nat} {w : World} {base : Nat} {X : Int} {neg : Bool} {A : Option Addr} {n c : Nat} {x : Int} (h : NumC K w base X neg A n c x) (J : Nat) : NumC (K + J) w base (X * ((2 ^ J : Nat) : Int)) neg A n c x := by
  obtain ⟨neg', m, e, v, hcs, hm, he, heb, hX⟩ := h
  refine ⟨neg', m, e, v, hcs, hm, fun h => by have := he h; omega, heb, ?_⟩
  by_cases h0 : m = 0
  · subst h0; rw [hX, Nat.zero_mul, Nat.zero_mul, sg_zero, Int.zero_mul]
  · have := he h0
    rw [hX, sg_pow, Nat.mul_assoc, ← Nat.pow_add]
    congr 3
    omega
end Go.Proofs.YtogjodnmegafdaaGreatFmtBesafter
