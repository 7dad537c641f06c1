/- Walks and plain laws of this seat's functions, part 39: Q6 Q7a. -/
import Derived.Test.YtikdhkmcdmnadaaGreatFmtBesafterJ36
import Derived.Test.YtikdhkmcdmnadaaGreatFmtBesafterJ37
import Derived.Test.YtikdhkmcdmnadaaGreatFmtBesafterJ38
set_option linter.unusedVariables false
set_option linter.unusedSimpArgs false
namespace Go.Proofs.YtikdhkmcdmnadaaGreatFmtBesafter
open Go.RowKit
attribute [local go_sem ↓] Go.wp_at_zero Go.wp_at_succ

/-! ### RoundShares -/
/-- a number of the reference in a block of its own -/
def NB (w : World) (base b : Nat) (X : Int) (neg : Bool) (A : Option Addr) (n c : Nat) (x : Int) : Prop := Blk w b 25 [.bool neg, .slice A n c, .int .i64 x] ∧ NumC 1074 w base X neg A n c x
theorem NB.below {w w' : World} {base b : Nat} {X : Int} {neg : Bool} {A : Option Addr} {n c : Nat} {x : Int} (h : NB w base b X neg A n c x) (hb : Below w.heap.size w w') : NB w' base b X neg A n c x := ⟨h.1.below' hb, h.2.below hb⟩
theorem NB.cells {w : World} {base b : Nat} {X : Int} {neg : Bool} {A : Option Addr} {n c : Nat} {x : Int} (h : NB w base b X neg A n c x) : w.cell? ⟨b, 0, none⟩ = some (.bool neg) ∧ w.cell? ⟨b, 1, none⟩ = some (.slice A n c) ∧ w.cell? ⟨b, 2, none⟩ = some (.int .i64 x) := (three h.1).1
theorem NB.new {w : World} {base : Nat} {X : Int} {neg : Bool} {A : Option Addr} {n c : Nat} {x : Int} (h : NumC 1074 w base X neg A n c x) : NB (w.alloc (.cells #[.bool neg, .slice A n c, .int .i64 x] 25)) base w.heap.size X neg A n c x := ⟨num_blk _ _ _ _ _ _, h.below (below_new (Below.refl _ _) _)⟩
theorem sign_c (K base : Nat) (X : Int) (n1 : Bool) (A1 : Option Addr) (l1 c1 : Nat) (x1 : Int) (w : World) (hx : NumC K w base X n1 A1 l1 c1 x1) :
    Calls Tryz.prog 24 #[.agg #[.bool n1, .slice A1 l1 c1, .int .i64 x1]] w fun e w' => e = .returned (.int .i64 (Int.sign X)) ∧ Below w.heap.size w w' := sign_calls K base X _ w hx
theorem turned_c (K base : Nat) (X : Int) (n1 : Bool) (A1 : Option Addr) (l1 c1 : Nat) (x1 : Int) (w : World) (hx : NumC K w base X n1 A1 l1 c1 x1) :
    Calls Tryz.prog 9 #[.agg #[.bool n1, .slice A1 l1 c1, .int .i64 x1]] w fun e w' => ∃ (neg : Bool) (A : Option Addr) (n c : Nat) (x : Int), e = .returned (.agg #[.bool neg, .slice A n c, .int .i64 x]) ∧ NumC K w' base (-X) neg A n c x ∧ Below w.heap.size w w' := by
  refine (turned_calls K base X _ w hx).mono ?_
  rintro e w' ⟨cs, rfl, hR, hW⟩
  obtain ⟨neg, A, n, c, x, rfl, hN⟩ := NumC.of hR
  exact ⟨neg, A, n, c, x, rfl, hN, hW⟩
theorem times_c2 (K J base L : Nat) (X Y : Int) (n1 n2 : Bool) (A1 A2 : Option Addr) (l1 l2 c1 c2 : Nat) (x1 x2 : Int) (w : World) (hb : base ≤ w.heap.size) (hx : NumC K w base X n1 A1 l1 c1 x1) (hy : NumC J w base Y n2 A2 l2 c2 x2) (hX : X.natAbs < 2 ^ L) (hY : Y.natAbs < 2 ^ L) (hL : L ≤ 1073741824) (hK : K ≤ 1073741824) (hJ : J ≤ 1073741824) :
    Calls Tryz.prog 16 #[.agg #[.bool n1, .slice A1 l1 c1, .int .i64 x1], .agg #[.bool n2, .slice A2 l2 c2, .int .i64 x2]] w fun e w' => ∃ (neg : Bool) (A : Option Addr) (n c : Nat) (x : Int), e = .returned (.agg #[.bool neg, .slice A n c, .int .i64 x]) ∧ NumC (K + J) w' base (X * Y) neg A n c x ∧ Below w.heap.size w w' := by
  refine (times_num K J base L X Y _ _ w hb hx hy hX hY hL hK hJ).mono ?_
  rintro e w' ⟨cs, rfl, hR, hW⟩
  obtain ⟨neg, A, n, c, x, rfl, hN⟩ := NumC.of hR
  exact ⟨neg, A, n, c, x, rfl, hN, hW⟩
theorem cmp_c (K base L : Nat) (X Y : Int) (n1 n2 : Bool) (A1 A2 : Option Addr) (l1 l2 c1 c2 : Nat) (x1 x2 : Int) (w : World) (hb : base ≤ w.heap.size) (hx : NumC K w base X n1 A1 l1 c1 x1) (hy : NumC K w base Y n2 A2 l2 c2 x2) (hX : X.natAbs < 2 ^ L) (hY : Y.natAbs < 2 ^ L) (hL : L ≤ 1073741824) (hK : K ≤ 1073741824) :
    Calls Tryz.prog 8 #[.agg #[.bool n1, .slice A1 l1 c1, .int .i64 x1], .agg #[.bool n2, .slice A2 l2 c2, .int .i64 x2]] w fun e w' => e = .returned (.int .i64 (Int.sign (X - Y))) ∧ Below w.heap.size w w' := cmp_num K base L X Y _ _ w hb hx hy hX hY hL hK
set_option exponentiation.threshold 6000 in
theorem raise_bd {x : Int} (h : x.natAbs < 2 ^ 2098) : (x * ((2 ^ 1074 : Nat) : Int)).natAbs < 2 ^ 5000 := by
  rw [Int.natAbs_mul, Int.natAbs_natCast]
  have h1 := Nat.mul_lt_mul_of_pos_right h (Nat.pow_pos (n := 1074) (a := 2) (by decide))
  rw [← Nat.pow_add] at h1
  exact Nat.lt_of_lt_of_le h1 (Nat.pow_le_pow_right (by decide) (by decide))
set_option exponentiation.threshold 6000 in
theorem prod_bd {x y : Int} (h : x.natAbs < 2 ^ 2098) (k : y.natAbs < 2 ^ 2098) : (x * y).natAbs < 2 ^ 5000 := by
  rw [Int.natAbs_mul]
  refine Nat.lt_of_lt_of_le (Nat.mul_lt_mul'' h k) ?_
  rw [← Nat.pow_add]
  exact Nat.pow_le_pow_right (by decide) (by decide)
end Go.Proofs.YtikdhkmcdmnadaaGreatFmtBesafter

namespace Go.Proofs.YtikdhkmcdmnadaaGreatFmtBesafter
open Go.RowKit
attribute [local go_sem ↓] Go.wp_at_zero Go.wp_at_succ

/-! ### RoundShares, where there is a quotient -/
theorem bne_f' {a b : Option Ordering} (h : (a == b) = true) : (a != b) = false := by simp [bne, h]
theorem bne_t' {a b : Option Ordering} (h : (a == b) = false) : (a != b) = true := by simp [bne, h]
/-- the four numbers in their blocks -/
structure Four (w0 w : World) (base b5 b7 b13 b15 : Nat) (X Y P Q : Int) (n1 n2 n3 n4 : Bool) (A1 A2 A3 A4 : Option Addr) (l1 l2 l3 l4 c1 c2 c3 c4 : Nat) (x1 x2 x3 x4 : Int) : Prop where
  x : NB w base b5 X n1 A1 l1 c1 x1
  y : NB w base b7 Y n2 A2 l2 c2 x2
  p : NB w base b13 P n3 A3 l3 c3 x3
  q : NB w base b15 Q n4 A4 l4 c4 x4
  bel : Below w0.heap.size w0 w
theorem Four.below {w0 w w' : World} {base b5 b7 b13 b15 : Nat} {X Y P Q : Int} {n1 n2 n3 n4 : Bool} {A1 A2 A3 A4 : Option Addr} {l1 l2 l3 l4 c1 c2 c3 c4 : Nat} {x1 x2 x3 x4 : Int} (h : Four w0 w base b5 b7 b13 b15 X Y P Q n1 n2 n3 n4 A1 A2 A3 A4 l1 l2 l3 l4 c1 c2 c3 c4 x1 x2 x3 x4) (hb : Below w.heap.size w w') :
    Four w0 w' base b5 b7 b13 b15 X Y P Q n1 n2 n3 n4 A1 A2 A3 A4 l1 l2 l3 l4 c1 c2 c3 c4 x1 x2 x3 x4 := ⟨h.x.below hb, h.y.below hb, h.p.below hb, h.q.below hb, below_next h.bel hb⟩
theorem wrap_one {s c : Int} (hs : s = 1 ∨ s = -1) (hc : -1 ≤ c ∧ c ≤ 1) : wrap64 (s * c) = s * c := by
  unfold wrap64
  rcases hs with rfl | rfl
  · omega
  · omega
theorem wrap_one' {s c : Int} (hs : s = 1 ∨ s = -1) (hc : -1 ≤ c ∧ c ≤ 1) : IntKind.i64.wrap (s * c) = s * c := by
  refine IntWalk.i64_in _ ?_
  rcases hs with rfl | rfl
  · omega
  · omega
theorem sign_in (x : Int) : -1 ≤ Int.sign x ∧ Int.sign x ≤ 1 := by
  rcases Int.lt_trichotomy x 0 with h | h | h
  · rw [Int.sign_eq_neg_one_of_neg h]; decide
  · subst h; decide
  · rw [Int.sign_eq_one_of_pos h]; decide
theorem low_cases {s t : Int} (hs : s = 1 ∨ s = -1) (ht : -1 ≤ t ∧ t ≤ 1) (h : ¬ (0 < s * t)) : (s = 1 ∧ t = -1) ∨ (s = 1 ∧ t = 0) ∨ (s = -1 ∧ t = 0) ∨ (s = -1 ∧ t = 1) := by
  rcases hs with rfl | rfl
  · omega
  · omega
theorem high_cases {s t : Int} (hs : s = 1 ∨ s = -1) (ht : -1 ≤ t ∧ t ≤ 1) (h : ¬ (s * t < 0)) : (s = 1 ∧ t = 1) ∨ (s = 1 ∧ t = 0) ∨ (s = -1 ∧ t = 0) ∨ (s = -1 ∧ t = -1) := by
  rcases hs with rfl | rfl
  · omega
  · omega
theorem both_cases {s t r : Int} (hs : s = 1 ∨ s = -1) (ht : -1 ≤ t ∧ t ≤ 1) (hr : -1 ≤ r ∧ r ≤ 1) (h : ¬ (0 < s * t)) (k : ¬ (s * r < 0)) :
    (s = 1 ∧ t = -1 ∧ r = 1) ∨ (s = 1 ∧ t = -1 ∧ r = 0) ∨ (s = 1 ∧ t = 0 ∧ r = 1) ∨ (s = 1 ∧ t = 0 ∧ r = 0) ∨ (s = -1 ∧ t = 1 ∧ r = -1) ∨ (s = -1 ∧ t = 1 ∧ r = 0) ∨ (s = -1 ∧ t = 0 ∧ r = -1) ∨ (s = -1 ∧ t = 0 ∧ r = 0) := by
  rcases hs with rfl | rfl
  · omega
  · omega
theorem ends_cases {s t r : Int} (hs : s = 1 ∨ s = -1) (ht : -1 ≤ t ∧ t ≤ 1) (hr : -1 ≤ r ∧ r ≤ 1) (h : ¬ (0 < s * t)) (k : ¬ (s * r < 0)) (ht0 : ¬ t = 0) (hr0 : ¬ r = 0) : (s = 1 ∧ t = -1 ∧ r = 1) ∨ (s = -1 ∧ t = 1 ∧ r = -1) := by
  rcases hs with rfl | rfl
  · omega
  · omega
theorem numV_fin {u : Nat} (h : fin u = true) : numV u = fv u := by unfold numV; rw [h, if_pos rfl]
/-- what the walk wants to know -/
structure ShareF (u v zp zq : Nat) (b2 b1 : Bool) (s : Int) (o0 : Option Nat) : Prop where
  up : zp < 18446744073709551616
  uq : zq < 18446744073709551616
  s1 : s = 1 ∨ s = -1
  any : b2 = true ∨ b1 = true
  lo : b2 = true → ¬ (0 < s * Int.sign (numV zp * numV v - numV u * ((2 ^ 1074 : Nat) : Int)))
  hi : b1 = true → ¬ (s * Int.sign (numV zq * numV v - numV u * ((2 ^ 1074 : Nat) : Int)) < 0)
  both : b2 = true → b1 = true → (FloatKind.f64.format.order zp zq == some .eq) = true ∨ ((FloatKind.f64.format.order zp zq == some .eq) = false ∧ nextS 1 zp = some zq ∧ (FloatKind.f64.format.order zq zq == some .eq) = true ∧ o0.isSome = true ∧
    ((FloatKind.f64.format.order (o0.getD 0) zp == some .eq) = true ∨ ((FloatKind.f64.format.order (o0.getD 0) zp == some .eq) = false ∧ (FloatKind.f64.format.order (o0.getD 0) zq == some .eq) = true)) ∧ ¬ Int.sign (numV zp * numV v - numV u * ((2 ^ 1074 : Nat) : Int)) = 0 ∧ ¬ Int.sign (numV zq * numV v - numV u * ((2 ^ 1074 : Nat) : Int)) = 0)
theorem ord_beq {x y : Nat} (h : Ieee.double.order x y = some .eq) : (FloatKind.f64.format.order x y == some .eq) = true := by
  have h' : FloatKind.f64.format.order x y = some .eq := h
  rw [h']; rfl
theorem ord_bne {x y : Nat} (h : Ieee.double.order x y ≠ some .eq) : (FloatKind.f64.format.order x y == some .eq) = false := by
  have h' : FloatKind.f64.format.order x y ≠ some .eq := h
  simpa using h'
theorem share_facts {u v : Nat} (hu : u < 18446744073709551616) (hv : v < 18446744073709551616) (fu : fin u = true) (fv' : fin v = true) (hv0 : uabs v ≠ 0) : ShareF u v ((divS 2 u v).getD 0) ((divS 1 u v).getD 0) (divS 2 u v).isSome (divS 1 u v).isSome (Int.sign (numV v)) (divS 0 u v) := by
  have S := share_law hu hv fu fv' hv0
  have hB := rv_pos hv0
  have hs : Int.sign (numV v) = 1 ∨ Int.sign (numV v) = -1 := by
    rw [numV_fin fv', fv_zero_iff hv fv', sign_sgv _ hB]
    cases fneg v
    · exact .inl rfl
    · exact .inr rfl
  obtain ⟨o2, h2⟩ : ∃ o, divS 2 u v = o := ⟨_, rfl⟩
  obtain ⟨o1, h1⟩ : ∃ o, divS 1 u v = o := ⟨_, rfl⟩
  rw [h2, h1] at S ⊢
  have hlo : ∀ p, o2 = some p → p < 18446744073709551616 ∧ (numV p * numV v - numV u * ((2 ^ 1074 : Nat) : Int)).sign = shareS p u v ∧ ¬ (0 < Int.sign (numV v) * shareS p u v) := by
    intro p hp
    obtain ⟨a, b, c⟩ := S.lw p hp
    rw [numV_fin b, numV_fin fu, numV_fin fv']
    exact ⟨a, rfl, by omega⟩
  have hhi : ∀ p, o1 = some p → p < 18446744073709551616 ∧ (numV p * numV v - numV u * ((2 ^ 1074 : Nat) : Int)).sign = shareS p u v ∧ ¬ (Int.sign (numV v) * shareS p u v < 0) := by
    intro p hp
    obtain ⟨a, b, c⟩ := S.hw p hp
    rw [numV_fin b, numV_fin fu, numV_fin fv']
    exact ⟨a, rfl, by omega⟩
  refine ⟨?_, ?_, hs, S.any, ?_, ?_, ?_⟩
  · cases o2 with
    | none => decide
    | some p => exact (hlo p rfl).1
  · cases o1 with
    | none => decide
    | some p => exact (hhi p rfl).1
  · intro h
    cases o2 with
    | none => cases h
    | some p =>
      obtain ⟨-, e, k⟩ := hlo p rfl
      show ¬ (0 < Int.sign (numV v) * (numV p * numV v - numV u * ((2 ^ 1074 : Nat) : Int)).sign)
      rw [e]; exact k
  · intro h
    cases o1 with
    | none => cases h
    | some p =>
      obtain ⟨-, e, k⟩ := hhi p rfl
      show ¬ (Int.sign (numV v) * (numV p * numV v - numV u * ((2 ^ 1074 : Nat) : Int)).sign < 0)
      rw [e]; exact k
  · intro g1 g2
    cases o2 with
    | none => cases g1
    | some p =>
      cases o1 with
      | none => cases g2
      | some q =>
        obtain ⟨-, e1, -⟩ := hlo p rfl
        obtain ⟨-, e2, -⟩ := hhi q rfl
        rcases S.both p q rfl rfl with h | ⟨a, b, c, d, e⟩
        · exact .inl (ord_beq h)
        · right
          refine ⟨ord_bne a, b, ?_, ?_, ?_, ?_, ?_⟩
          · obtain ⟨n, r, rfl, hr⟩ := div_fin h1
            exact ord_beq (sgn_self hr)
          · rcases c with c | c <;> rw [c] <;> rfl
          · rcases c with c | c
            · left
              rw [c]
              obtain ⟨n, r, rfl, hr⟩ := div_fin h2
              exact ord_beq (sgn_self hr)
            · by_cases hpq : Ieee.double.order q p = some .eq
              · left; rw [c]; exact ord_beq hpq
              · right
                rw [c]
                obtain ⟨n, r, rfl, hr⟩ := div_fin h1
                exact ⟨ord_bne hpq, ord_beq (sgn_self hr)⟩
          · show ¬ (numV p * numV v - numV u * ((2 ^ 1074 : Nat) : Int)).sign = 0
            rw [e1]; exact d
          · show ¬ (numV q * numV v - numV u * ((2 ^ 1074 : Nat) : Int)).sign = 0
            rw [e2]; exact e
end Go.Proofs.YtikdhkmcdmnadaaGreatFmtBesafter
