/- Walks and plain laws of this seat's functions, part 34: Q6 Q7a Q8 Q13 Q14 Q15a. -/
import Derived.Test.YtfgdmiigmcnmpaaGreatFmtJ21
import Derived.Test.YtfgdmiigmcnmpaaGreatFmtJ30
import Derived.Test.YtfgdmiigmcnmpaaGreatFmtJ31
import Derived.Test.YtfgdmiigmcnmpaaGreatFmtJ32
import Derived.Test.YtfgdmiigmcnmpaaGreatFmtJ33
set_option linter.unusedVariables false
set_option linter.unusedSimpArgs false
namespace Go.Proofs.YtfgdmiigmcnmpaaGreatFmt
open Go.RowKit
attribute [local go_sem ↓] Go.wp_at_zero Go.wp_at_succ

/-! ### RoundShares -/
/-- a number of the reference in a block of its own -/
def NB (w : World) (base b : Nat) (X : Int) (neg : Bool) (A : Option Addr) (n c : Nat) (x : Int) : Prop := Blk w b 25 [.bool neg, .slice A n c, .int .i64 x] ∧ NumC 1074 w base X neg A n c x
theorem NB.below {w w' : World} {base b : Nat} {X : Int} {neg : Bool} {A : Option Addr} {n c : Nat} {x : Int} (h : NB w base b X neg A n c x) (hb : Below w.heap.size w w') : NB w' base b X neg A n c x := ⟨h.1.below' hb, h.2.below hb⟩
theorem NB.cells {w : World} {base b : Nat} {X : Int} {neg : Bool} {A : Option Addr} {n c : Nat} {x : Int} (h : NB w base b X neg A n c x) : w.cell? ⟨b, 0, none⟩ = some (.bool neg) ∧ w.cell? ⟨b, 1, none⟩ = some (.slice A n c) ∧ w.cell? ⟨b, 2, none⟩ = some (.int .i64 x) := (three h.1).1
theorem NB.new {w : World} {base : Nat} {X : Int} {neg : Bool} {A : Option Addr} {n c : Nat} {x : Int} (h : NumC 1074 w base X neg A n c x) : NB (w.alloc (.cells #[.bool neg, .slice A n c, .int .i64 x] 25)) base w.heap.size X neg A n c x := ⟨num_blk _ _ _ _ _ _, h.below (below_new (Below.refl _ _) _)⟩
theorem sign_c (K base : Nat) (X : Int) (n1 : Bool) (A1 : Option Addr) (l1 c1 : Nat) (x1 : Int) (w : World) (hx : NumC K w base X n1 A1 l1 c1 x1) :
    Calls Tryz.prog 10 #[.agg #[.bool n1, .slice A1 l1 c1, .int .i64 x1]] w fun e w' => e = .returned (.int .i64 (Int.sign X)) ∧ Below w.heap.size w w' := sign_calls K base X _ w hx
theorem turned_c (K base : Nat) (X : Int) (n1 : Bool) (A1 : Option Addr) (l1 c1 : Nat) (x1 : Int) (w : World) (hx : NumC K w base X n1 A1 l1 c1 x1) :
    Calls Tryz.prog 75 #[.agg #[.bool n1, .slice A1 l1 c1, .int .i64 x1]] w fun e w' => ∃ (neg : Bool) (A : Option Addr) (n c : Nat) (x : Int), e = .returned (.agg #[.bool neg, .slice A n c, .int .i64 x]) ∧ NumC K w' base (-X) neg A n c x ∧ Below w.heap.size w w' := by
  refine (turned_calls K base X _ w hx).mono ?_
  rintro e w' ⟨cs, rfl, hR, hW⟩
  obtain ⟨neg, A, n, c, x, rfl, hN⟩ := NumC.of hR
  exact ⟨neg, A, n, c, x, rfl, hN, hW⟩
theorem times_c2 (K J base L : Nat) (X Y : Int) (n1 n2 : Bool) (A1 A2 : Option Addr) (l1 l2 c1 c2 : Nat) (x1 x2 : Int) (w : World) (hb : base ≤ w.heap.size) (hx : NumC K w base X n1 A1 l1 c1 x1) (hy : NumC J w base Y n2 A2 l2 c2 x2) (hX : X.natAbs < 2 ^ L) (hY : Y.natAbs < 2 ^ L) (hL : L ≤ 1073741824) (hK : K ≤ 1073741824) (hJ : J ≤ 1073741824) :
    Calls Tryz.prog 13 #[.agg #[.bool n1, .slice A1 l1 c1, .int .i64 x1], .agg #[.bool n2, .slice A2 l2 c2, .int .i64 x2]] w fun e w' => ∃ (neg : Bool) (A : Option Addr) (n c : Nat) (x : Int), e = .returned (.agg #[.bool neg, .slice A n c, .int .i64 x]) ∧ NumC (K + J) w' base (X * Y) neg A n c x ∧ Below w.heap.size w w' := by
  refine (times_num K J base L X Y _ _ w hb hx hy hX hY hL hK hJ).mono ?_
  rintro e w' ⟨cs, rfl, hR, hW⟩
  obtain ⟨neg, A, n, c, x, rfl, hN⟩ := NumC.of hR
  exact ⟨neg, A, n, c, x, rfl, hN, hW⟩
theorem cmp_c (K base L : Nat) (X Y : Int) (n1 n2 : Bool) (A1 A2 : Option Addr) (l1 l2 c1 c2 : Nat) (x1 x2 : Int) (w : World) (hb : base ≤ w.heap.size) (hx : NumC K w base X n1 A1 l1 c1 x1) (hy : NumC K w base Y n2 A2 l2 c2 x2) (hX : X.natAbs < 2 ^ L) (hY : Y.natAbs < 2 ^ L) (hL : L ≤ 1073741824) (hK : K ≤ 1073741824) :
    Calls Tryz.prog 12 #[.agg #[.bool n1, .slice A1 l1 c1, .int .i64 x1], .agg #[.bool n2, .slice A2 l2 c2, .int .i64 x2]] w fun e w' => e = .returned (.int .i64 (Int.sign (X - Y))) ∧ Below w.heap.size w w' := cmp_num K base L X Y _ _ w hb hx hy hX hY hL hK
set_option exponentiation.threshold 6000 in
theorem raise_bd {x : Int} (h : x.natAbs < 2 ^ 2098) : (x * ((2 ^ 1074 : Nat) : Int)).natAbs < 2 ^ 5000 := by
  rw [Int.natAbs_mul, Int.natAbs_natCast]
  have h1 := Nat.mul_lt_mul_of_pos_right h (Nat.pow_pos (n := 1074) (a := 2) (by decide))
  rw [← Nat.pow_add] at h1
  exact Nat.lt_of_lt_of_le h1 (Nat.pow_le_pow_right (by decide) (by decide))
set_option exponentiation.threshold 6000 in
theorem prod_bd {x y : Int} (h : x.natAbs < 2 ^ 2098) (k : y.natAbs < 2 ^ 2098) : (x * y).natAbs < 2 ^ 5000 := by
  rw [Int.natAbs_mul]
  refine Nat.lt_of_lt_of_le (Nat.mul_lt_mul'' h k) ?_
  rw [← Nat.pow_add]
  exact Nat.pow_le_pow_right (by decide) (by decide)
set_option maxHeartbeats 4000000 in
set_option maxRecDepth 100000 in
theorem shares_bad (u v : Nat) (hu : u < 18446744073709551616) (hv : v < 18446744073709551616) (hf : fin u = false ∨ (fin u = true ∧ fin v = false) ∨ (fin u = true ∧ fin v = true ∧ Int.sign (numV v) = 0)) (h2 : divS 2 u v = none) (h1 : divS 1 u v = none) (w : World) :
    Calls Tryz.prog 3 #[.float .f64 u, .float .f64 v] w fun e w' => e = .returned (.bool true) ∧ Below w.heap.size w w' := by
  have HB := Lib.hid (And.intro hu hv)
  have HD2 := Lib.hid (fun W => rdiv_calls 2 u v hu hv W)
  have HD1 := Lib.hid (fun W => rdiv_calls 1 u v hu hv W)
  rw [h2] at HD2
  rw [h1] at HD1
  clear hu hv h2 h1
  go_enter Tryz.func3, Tryz.ntmps3
  go_wp2_with fail
  refine (lnum_calls u w.heap.size w HB.out.1 (Nat.le_refl _)).mono ?_
  rintro e w1 ⟨n1, A1, l1, c1, x1, rfl, hR, hW⟩
  have hB := below_new (Below.refl w1.heap.size w1) (.cells #[.bool n1, .slice A1 l1 c1, .int .i64 x1] 25)
  have H1 := Lib.hid (And.intro (NB.new hR) (below_next hW hB))
  clear hR hW hB
  go_wp2_with fail
  refine (lnum_calls v w.heap.size _ HB.out.2 H1.out.2.size).mono ?_
  rintro e w2 ⟨n2, A2, l2, c2, x2, rfl, hR, hW⟩
  have hB := below_new (Below.refl w2.heap.size w2) (.cells #[.bool n2, .slice A2 l2 c2, .int .i64 x2] 25)
  have hb1 := below_next hW hB
  have H2 := Lib.hid (And.intro (NB.new hR) (below_next H1.out.2 hb1))
  clear hR hW hB hb1 H1
  go_wp2_with fail
  refine (HD2.out _).mono ?_
  rintro e w3 ⟨rfl, hW⟩
  have H3 := Lib.hid (And.intro (H2.out.1.below hW) (below_next H2.out.2 hW))
  clear hW H2
  unfold fRet2
  go_wp2_with fail
  refine (HD1.out _).mono ?_
  rintro e w4 ⟨rfl, hW⟩
  have H4 := Lib.hid (And.intro (H3.out.1.below hW) (below_next H3.out.2 hW))
  clear hW H3
  unfold fRet2
  simp only [Option.getD_none, Option.isSome_none]
  rcases hf with hf | ⟨hf, hg⟩ | ⟨hf, hg, hs⟩
  · rw [hf]
    clear hf
    go_wp2_with fail
    refine (started_calls _).mono ?_
    rintro e w6 ⟨rfl, hW⟩
    have H6 := Lib.hid (below_next H4.out.2 hW)
    clear hW
    go_wp2
    go_ret
    exact ⟨rfl, H6.out⟩
  · rw [hf, hg]
    clear hf hg
    go_wp2_with fail
    refine (started_calls _).mono ?_
    rintro e w6 ⟨rfl, hW⟩
    have H6 := Lib.hid (below_next H4.out.2 hW)
    clear hW
    go_wp2
    go_ret
    exact ⟨rfl, H6.out⟩
  · rw [hf, hg]
    obtain ⟨y0, y1, y2⟩ := H4.out.1.cells
    have HS := Lib.hid (sign_c 1074 w.heap.size _ n2 A2 l2 c2 x2 w4 H4.out.1.2)
    rw [hs] at HS
    clear hf hg hs
    go_wp2_with fail
    refine HS.out.mono ?_
    rintro e w5 ⟨rfl, hW⟩
    have H5 := Lib.hid (below_next H4.out.2 hW)
    clear hW
    go_wp2_with fail
    refine (started_calls _).mono ?_
    rintro e w6 ⟨rfl, hW⟩
    have H6 := Lib.hid (below_next H5.out hW)
    clear hW
    go_wp2
    go_ret
    exact ⟨rfl, H6.out⟩
end Go.Proofs.YtfgdmiigmcnmpaaGreatFmt

namespace Go.Proofs.YtfgdmiigmcnmpaaGreatFmt
open Go.RowKit
attribute [local go_sem ↓] Go.wp_at_zero Go.wp_at_succ

/-! ### RoundShares, where there is a quotient -/
theorem bne_f' {a b : Option Ordering} (h : (a == b) = true) : (a != b) = false := by simp [bne, h]
theorem bne_t' {a b : Option Ordering} (h : (a == b) = false) : (a != b) = true := by simp [bne, h]
/-- the four numbers in their blocks -/
structure Four (w0 w : World) (base b5 b7 b13 b15 : Nat) (X Y P Q : Int) (n1 n2 n3 n4 : Bool) (A1 A2 A3 A4 : Option Addr) (l1 l2 l3 l4 c1 c2 c3 c4 : Nat) (x1 x2 x3 x4 : Int) : Prop where
  x : NB w base b5 X n1 A1 l1 c1 x1
  y : NB w base b7 Y n2 A2 l2 c2 x2
  p : NB w base b13 P n3 A3 l3 c3 x3
  q : NB w base b15 Q n4 A4 l4 c4 x4
  bel : Below w0.heap.size w0 w
theorem Four.below {w0 w w' : World} {base b5 b7 b13 b15 : Nat} {X Y P Q : Int} {n1 n2 n3 n4 : Bool} {A1 A2 A3 A4 : Option Addr} {l1 l2 l3 l4 c1 c2 c3 c4 : Nat} {x1 x2 x3 x4 : Int} (h : Four w0 w base b5 b7 b13 b15 X Y P Q n1 n2 n3 n4 A1 A2 A3 A4 l1 l2 l3 l4 c1 c2 c3 c4 x1 x2 x3 x4) (hb : Below w.heap.size w w') :
    Four w0 w' base b5 b7 b13 b15 X Y P Q n1 n2 n3 n4 A1 A2 A3 A4 l1 l2 l3 l4 c1 c2 c3 c4 x1 x2 x3 x4 := ⟨h.x.below hb, h.y.below hb, h.p.below hb, h.q.below hb, below_next h.bel hb⟩
theorem wrap_one {s c : Int} (hs : s = 1 ∨ s = -1) (hc : -1 ≤ c ∧ c ≤ 1) : wrap64 (s * c) = s * c := by
  unfold wrap64
  rcases hs with rfl | rfl
  · omega
  · omega
theorem wrap_one' {s c : Int} (hs : s = 1 ∨ s = -1) (hc : -1 ≤ c ∧ c ≤ 1) : IntKind.i64.wrap (s * c) = s * c := by
  refine IntWalk.i64_in _ ?_
  rcases hs with rfl | rfl
  · omega
  · omega
theorem sign_in (x : Int) : -1 ≤ Int.sign x ∧ Int.sign x ≤ 1 := by
  rcases Int.lt_trichotomy x 0 with h | h | h
  · rw [Int.sign_eq_neg_one_of_neg h]; decide
  · subst h; decide
  · rw [Int.sign_eq_one_of_pos h]; decide
theorem low_cases {s t : Int} (hs : s = 1 ∨ s = -1) (ht : -1 ≤ t ∧ t ≤ 1) (h : ¬ (0 < s * t)) : (s = 1 ∧ t = -1) ∨ (s = 1 ∧ t = 0) ∨ (s = -1 ∧ t = 0) ∨ (s = -1 ∧ t = 1) := by
  rcases hs with rfl | rfl
  · omega
  · omega
theorem high_cases {s t : Int} (hs : s = 1 ∨ s = -1) (ht : -1 ≤ t ∧ t ≤ 1) (h : ¬ (s * t < 0)) : (s = 1 ∧ t = 1) ∨ (s = 1 ∧ t = 0) ∨ (s = -1 ∧ t = 0) ∨ (s = -1 ∧ t = -1) := by
  rcases hs with rfl | rfl
  · omega
  · omega
theorem both_cases {s t r : Int} (hs : s = 1 ∨ s = -1) (ht : -1 ≤ t ∧ t ≤ 1) (hr : -1 ≤ r ∧ r ≤ 1) (h : ¬ (0 < s * t)) (k : ¬ (s * r < 0)) :
    (s = 1 ∧ t = -1 ∧ r = 1) ∨ (s = 1 ∧ t = -1 ∧ r = 0) ∨ (s = 1 ∧ t = 0 ∧ r = 1) ∨ (s = 1 ∧ t = 0 ∧ r = 0) ∨ (s = -1 ∧ t = 1 ∧ r = -1) ∨ (s = -1 ∧ t = 1 ∧ r = 0) ∨ (s = -1 ∧ t = 0 ∧ r = -1) ∨ (s = -1 ∧ t = 0 ∧ r = 0) := by
  rcases hs with rfl | rfl
  · omega
  · omega
theorem ends_cases {s t r : Int} (hs : s = 1 ∨ s = -1) (ht : -1 ≤ t ∧ t ≤ 1) (hr : -1 ≤ r ∧ r ≤ 1) (h : ¬ (0 < s * t)) (k : ¬ (s * r < 0)) (ht0 : ¬ t = 0) (hr0 : ¬ r = 0) : (s = 1 ∧ t = -1 ∧ r = 1) ∨ (s = -1 ∧ t = 1 ∧ r = -1) := by
  rcases hs with rfl | rfl
  · omega
  · omega
theorem numV_fin {u : Nat} (h : fin u = true) : numV u = fv u := by unfold numV; rw [h, if_pos rfl]
/-- what the walk wants to know -/
structure ShareF (u v zp zq : Nat) (b2 b1 : Bool) (s : Int) (o0 : Option Nat) : Prop where
  up : zp < 18446744073709551616
  uq : zq < 18446744073709551616
  s1 : s = 1 ∨ s = -1
  any : b2 = true ∨ b1 = true
  lo : b2 = true → ¬ (0 < s * Int.sign (numV zp * numV v - numV u * ((2 ^ 1074 : Nat) : Int)))
  hi : b1 = true → ¬ (s * Int.sign (numV zq * numV v - numV u * ((2 ^ 1074 : Nat) : Int)) < 0)
  both : b2 = true → b1 = true → (FloatKind.f64.format.order zp zq == some .eq) = true ∨ ((FloatKind.f64.format.order zp zq == some .eq) = false ∧ nextS 1 zp = some zq ∧ (FloatKind.f64.format.order zq zq == some .eq) = true ∧ o0.isSome = true ∧
    ((FloatKind.f64.format.order (o0.getD 0) zp == some .eq) = true ∨ ((FloatKind.f64.format.order (o0.getD 0) zp == some .eq) = false ∧ (FloatKind.f64.format.order (o0.getD 0) zq == some .eq) = true)) ∧ ¬ Int.sign (numV zp * numV v - numV u * ((2 ^ 1074 : Nat) : Int)) = 0 ∧ ¬ Int.sign (numV zq * numV v - numV u * ((2 ^ 1074 : Nat) : Int)) = 0)
theorem ord_beq {x y : Nat} (h : Ieee.double.order x y = some .eq) : (FloatKind.f64.format.order x y == some .eq) = true := by
  have h' : FloatKind.f64.format.order x y = some .eq := h
  rw [h']; rfl
theorem ord_bne {x y : Nat} (h : Ieee.double.order x y ≠ some .eq) : (FloatKind.f64.format.order x y == some .eq) = false := by
  have h' : FloatKind.f64.format.order x y ≠ some .eq := h
  simpa using h'
theorem share_facts {u v : Nat} (hu : u < 18446744073709551616) (hv : v < 18446744073709551616) (fu : fin u = true) (fv' : fin v = true) (hv0 : uabs v ≠ 0) : ShareF u v ((divS 2 u v).getD 0) ((divS 1 u v).getD 0) (divS 2 u v).isSome (divS 1 u v).isSome (Int.sign (numV v)) (divS 0 u v) := by
  have S := share_law hu hv fu fv' hv0
  have hB := rv_pos hv0
  have hs : Int.sign (numV v) = 1 ∨ Int.sign (numV v) = -1 := by
    rw [numV_fin fv', fv_zero_iff hv fv', sign_sgv _ hB]
    cases fneg v
    · exact .inl rfl
    · exact .inr rfl
  obtain ⟨o2, h2⟩ : ∃ o, divS 2 u v = o := ⟨_, rfl⟩
  obtain ⟨o1, h1⟩ : ∃ o, divS 1 u v = o := ⟨_, rfl⟩
  rw [h2, h1] at S ⊢
  have hlo : ∀ p, o2 = some p → p < 18446744073709551616 ∧ (numV p * numV v - numV u * ((2 ^ 1074 : Nat) : Int)).sign = shareS p u v ∧ ¬ (0 < Int.sign (numV v) * shareS p u v) := by
    intro p hp
    obtain ⟨a, b, c⟩ := S.lw p hp
    rw [numV_fin b, numV_fin fu, numV_fin fv']
    exact ⟨a, rfl, by omega⟩
  have hhi : ∀ p, o1 = some p → p < 18446744073709551616 ∧ (numV p * numV v - numV u * ((2 ^ 1074 : Nat) : Int)).sign = shareS p u v ∧ ¬ (Int.sign (numV v) * shareS p u v < 0) := by
    intro p hp
    obtain ⟨a, b, c⟩ := S.hw p hp
    rw [numV_fin b, numV_fin fu, numV_fin fv']
    exact ⟨a, rfl, by omega⟩
  refine ⟨?_, ?_, hs, S.any, ?_, ?_, ?_⟩
  · cases o2 with
    | none => decide
    | some p => exact (hlo p rfl).1
  · cases o1 with
    | none => decide
    | some p => exact (hhi p rfl).1
  · intro h
    cases o2 with
    | none => cases h
    | some p =>
      obtain ⟨-, e, k⟩ := hlo p rfl
      show ¬ (0 < Int.sign (numV v) * (numV p * numV v - numV u * ((2 ^ 1074 : Nat) : Int)).sign)
      rw [e]; exact k
  · intro h
    cases o1 with
    | none => cases h
    | some p =>
      obtain ⟨-, e, k⟩ := hhi p rfl
      show ¬ (Int.sign (numV v) * (numV p * numV v - numV u * ((2 ^ 1074 : Nat) : Int)).sign < 0)
      rw [e]; exact k
  · intro g1 g2
    cases o2 with
    | none => cases g1
    | some p =>
      cases o1 with
      | none => cases g2
      | some q =>
        obtain ⟨-, e1, -⟩ := hlo p rfl
        obtain ⟨-, e2, -⟩ := hhi q rfl
        rcases S.both p q rfl rfl with h | ⟨a, b, c, d, e⟩
        · exact .inl (ord_beq h)
        · right
          refine ⟨ord_bne a, b, ?_, ?_, ?_, ?_, ?_⟩
          · obtain ⟨n, r, rfl, hr⟩ := div_fin h1
            exact ord_beq (sgn_self hr)
          · rcases c with c | c <;> rw [c] <;> rfl
          · rcases c with c | c
            · left
              rw [c]
              obtain ⟨n, r, rfl, hr⟩ := div_fin h2
              exact ord_beq (sgn_self hr)
            · by_cases hpq : Ieee.double.order q p = some .eq
              · left; rw [c]; exact ord_beq hpq
              · right
                rw [c]
                obtain ⟨n, r, rfl, hr⟩ := div_fin h1
                exact ⟨ord_bne hpq, ord_beq (sgn_self hr)⟩
          · show ¬ (numV p * numV v - numV u * ((2 ^ 1074 : Nat) : Int)).sign = 0
            rw [e1]; exact d
          · show ¬ (numV q * numV v - numV u * ((2 ^ 1074 : Nat) : Int)).sign = 0
            rw [e2]; exact e
end Go.Proofs.YtfgdmiigmcnmpaaGreatFmt

namespace Go.Proofs.YtfgdmiigmcnmpaaGreatFmt
open Go.RowKit
attribute [local go_sem ↓] Go.wp_at_zero Go.wp_at_succ

/-! ### ref2.Next, law2.same, law2.one of Next, RoundNext -/
theorem same_calls (a : Nat) (ok : Bool) (w : World) :
    Calls Tryz.prog 24 #[.float .f64 a, .bool ok, .int .u64 a, .bool ok] w fun e w' => e = .returned (.bool true) ∧ w = w' := by
  have HB := Lib.hid (fun W => apibits_calls a W)
  cases ok
  all_goals (
    go_enter Tryz.func24, Tryz.ntmps24
    go_wp2_with fail
    refine (HB.out _).mono ?_
    rintro e w' ⟨rfl, rfl⟩
    go_wp2
    go_ret
    exact ⟨rfl, rfl⟩)
set_option exponentiation.threshold 3000 in
theorem step_bd {x : Int} (h : x.natAbs < 2 ^ 2098) : (x * ((2 ^ 6 : Nat) : Int)).natAbs < 2 ^ 3000 ∧ (x * ((2 ^ 6 : Nat) : Int) + 1).natAbs < 2 ^ 3000 ∧ (x * ((2 ^ 6 : Nat) : Int) - 1).natAbs < 2 ^ 3000 := by
  have e : (2 : Nat) ^ 3000 = 2 ^ 2098 * 2 ^ 902 := by rw [← Nat.pow_add]
  have e1 : 2 ^ 8 ≤ 2 ^ 902 := Nat.pow_le_pow_right (by decide) (by decide)
  have e2 := Nat.mul_le_mul_left (2 ^ 2098) e1
  have e3 : ((2 ^ 6 : Nat) : Int) = 64 := by decide
  have e4 : (2 : Nat) ^ 8 = 256 := by decide
  rw [← e, e4] at e2
  rw [e3]
  generalize (2 : Nat) ^ 2098 = a at *
  generalize (2 : Nat) ^ 3000 = b at *
  omega
set_option exponentiation.threshold 3000 in
set_option maxHeartbeats 1000000 in
set_option maxRecDepth 100000 in
theorem next2_bad (d : Int) (u : Nat) (hu : u < 18446744073709551616) (hf : fin u = false) (w : World) :
    Calls Tryz.prog 40 #[.int .i64 d, .int .u64 u] w fun e w' => e = optRet none ∧ Below w.heap.size w w' := by
  have HO := Lib.hid (of_calls u w.heap.size w hu)
  rw [hf] at HO
  clear hu hf
  go_enter Tryz.func40, Tryz.ntmps40
  go_wp2_with fail
  refine HO.out.mono ?_
  rintro e w1 ⟨n1, A1, l1, k1, x1, rfl, hR, hW⟩
  have H1 := Lib.hid (below_next hW (below_new (Below.refl w1.heap.size w1) (.cells #[.bool n1, .slice A1 l1 k1, .int .i64 x1] 25)))
  clear hR hW HO
  go_wp2
  go_ret2
  exact ⟨rfl, H1.out⟩
/-- the little step, laid behind a number -/
theorem step_lay {base : Nat} {w1 : World} {X : Int} {n1 : Bool} {A1 : Option Addr} {l1 k1 : Nat} {x1 : Int} (h : NumC 1074 w1 base X n1 A1 l1 k1 x1) (hb : base ≤ w1.heap.size) {W : World}
    (hW : (((w1.alloc (.cells #[.bool n1, .slice A1 l1 k1, .int .i64 x1] 25)).alloc (.cells #[.int .u32 1] 56)).alloc (.cells #[.bool false, .slice (some ⟨w1.heap.size + 1, 0, none⟩) 1 1, .int .i64 (-1080)] 25)) = W) :
    Blk W w1.heap.size 25 [.bool n1, .slice A1 l1 k1, .int .i64 x1] ∧ NumC 1080 W base (X * ((2 ^ 6 : Nat) : Int)) n1 A1 l1 k1 x1 ∧ NumC 1080 W base 1 false (some ⟨w1.heap.size + 1, 0, none⟩) 1 1 (-1080) ∧ Below w1.heap.size w1 W := by
  have hBel : Below w1.heap.size w1 W := by rw [← hW]; exact below_new (below_new (below_new (Below.refl _ _) _) _) _
  have h2 : Blk ((w1.alloc (.cells #[.bool n1, .slice A1 l1 k1, .int .i64 x1] 25)).alloc (.cells #[.int .u32 1] 56)) (w1.heap.size + 1) 56 [.int .u32 1] := by
    have := Blk.new (w1.alloc (.cells #[.bool n1, .slice A1 l1 k1, .int .i64 x1] 25)) #[.int .u32 1] 56
    simpa using this
  refine ⟨?_, (h.below hBel).raise 6, one_num ?_ (by omega), hBel⟩
  · rw [← hW]; exact ((num_blk w1 n1 A1 l1 k1 x1).alloc _).alloc _
  · rw [← hW]; exact h2.alloc _
/-- a number stored into a block of its kind -/
theorem num_store {K base b : Nat} {w0 w : World} {X : Int} {n1 n2 : Bool} {A1 A2 : Option Addr} {l1 l2 k1 k2 : Nat} {x1 x2 : Int} (hb : Blk w b 25 [.bool n2, .slice A2 l2 k2, .int .i64 x2]) (h : NumC K w base X n1 A1 l1 k1 x1) (hB : base ≤ b) (hW : Below base w0 w) {W : World}
    (e : ((w.setCell ⟨b, 0, none⟩ (.bool n1)).setCell ⟨b, 1, none⟩ (.slice A1 l1 k1)).setCell ⟨b, 2, none⟩ (.int .i64 x1) = W) :
    Blk W b 25 [.bool n1, .slice A1 l1 k1, .int .i64 x1] ∧ NumC K W base X n1 A1 l1 k1 x1 ∧ Below base w0 W := by
  subst e
  exact ⟨((hb.set 0 _).set 1 _).set 2 _, ((h.set hb hB 0 _).set (hb.set 0 _) hB 1 _).set ((hb.set 0 _).set 1 _) hB 2 _, ((hW.setCell (p := ⟨b, 0, none⟩) hB _).setCell (p := ⟨b, 1, none⟩) hB _).setCell (p := ⟨b, 2, none⟩) hB _⟩
set_option exponentiation.threshold 3000 in
set_option maxHeartbeats 1000000 in
set_option maxRecDepth 100000 in
theorem next2_fin (d : Int) (u : Nat) (hu : u < 18446744073709551616) (hf : fin u = true) (w : World) :
    Calls Tryz.prog 40 #[.int .i64 d, .int .u64 u] w fun e w' => e = optRet (rndD d 1080 (numV u * ((2 ^ 6 : Nat) : Int) + stepS d)) ∧ Below w.heap.size w w' := by
  have HO := Lib.hid (of_calls u w.heap.size w hu)
  rw [hf] at HO
  have HBD := Lib.hid (step_bd (numV_bd hu))
  clear hu hf
  have hd3 : d = 1 ∨ d = 2 ∨ (¬ d = 1 ∧ ¬ d = 2) := by omega
  rcases hd3 with rfl | rfl | ⟨h1, h2⟩
  · go_enter Tryz.func40, Tryz.ntmps40
    go_wp2_with fail
    refine HO.out.mono ?_
    rintro e w1 ⟨n1, A1, l1, k1, x1, rfl, hR, hW⟩
    have HRR := Lib.hid (And.intro hR hW)
    have hB := below_new (Below.refl w1.heap.size w1) (.cells #[.bool n1, .slice A1 l1 k1, .int .i64 x1] 25)
    have H1 := Lib.hid (num_blk w1 n1 A1 l1 k1 x1)
    obtain ⟨⟨c0, c1, c2⟩, _⟩ := three H1.out
    clear hR hW HO hB
    go_wp2_with fail
    obtain ⟨w2, hw2⟩ : ∃ W, (((w1.alloc (.cells #[.bool n1, .slice A1 l1 k1, .int .i64 x1] 25)).alloc (.cells #[.int .u32 1] 56)).alloc (.cells #[.bool false, .slice (some ⟨w1.heap.size + 1, 0, none⟩) 1 1, .int .i64 (-1080)] 25)) = W := ⟨_, rfl⟩
    have hL := step_lay HRR.out.1 HRR.out.2.size hw2
    rw [hw2]
    have HL := Lib.hid hL
    clear hL hw2
    refine (plus_c2 1080 w.heap.size 3000 (numV u * ((2 ^ 6 : Nat) : Int)) 1 n1 false A1 (some ⟨w1.heap.size + 1, 0, none⟩) l1 1 k1 1 x1 (-1080) w2 (Nat.le_trans HRR.out.2.size HL.out.2.2.2.size) HL.out.2.1 HL.out.2.2.1 HBD.out.1 (by rw [show (1 : Int).natAbs = 1 from rfl]; exact Nat.one_lt_two_pow (by decide)) (by decide) (by decide)).mono ?_
    rintro e w3 ⟨n3, A3, l3, k3, x3, rfl, hR, hW⟩
    have H3 : Hid (Blk w3 w1.heap.size 25 [.bool n1, .slice A1 l1 k1, .int .i64 x1] ∧ NumC 1080 w3 w.heap.size (numV u * ((2 ^ 6 : Nat) : Int) + 1) n3 A3 l3 k3 x3 ∧ Below w.heap.size w w3) := ⟨HL.out.1.below' hW, hR, below_next (below_next HRR.out.2 HL.out.2.2.2) hW⟩
    have hbb : w.heap.size ≤ w1.heap.size := HRR.out.2.size
    clear hR hW HL
    obtain ⟨⟨d0, d1, d2⟩, f0, f1, f2⟩ := three H3.out.1
    obtain ⟨w4, hw4⟩ : ∃ W, ((w3.setCell ⟨w1.heap.size, 0, none⟩ (.bool n3)).setCell ⟨w1.heap.size, 1, none⟩ (.slice A3 l3 k3)).setCell ⟨w1.heap.size, 2, none⟩ (.int .i64 x3) = W := ⟨_, rfl⟩
    have hS := num_store H3.out.1 H3.out.2.1 hbb H3.out.2.2 hw4
    have HS := Lib.hid hS
    clear hS
    obtain ⟨⟨e0, e1, e2⟩, _⟩ := three HS.out.1
    go_wp2_with fail
    try rw [hw4]
    refine (round_c 1 1080 w.heap.size 3000 _ n3 A3 l3 k3 x3 w4 HS.out.2.2.size HS.out.2.1 (HBD.out.2.1) (by decide) (by decide) (by decide)).mono ?_
    rintro e w5 ⟨rfl, hW⟩
    have H5 := Lib.hid (below_next HS.out.2.2 hW)
    clear hW hw4
    unfold optRet
    go_wp2
    go_ret2
    exact ⟨rfl, H5.out⟩
  · go_enter Tryz.func40, Tryz.ntmps40
    go_wp2_with fail
    refine HO.out.mono ?_
    rintro e w1 ⟨n1, A1, l1, k1, x1, rfl, hR, hW⟩
    have HRR := Lib.hid (And.intro hR hW)
    have hB := below_new (Below.refl w1.heap.size w1) (.cells #[.bool n1, .slice A1 l1 k1, .int .i64 x1] 25)
    have H1 := Lib.hid (num_blk w1 n1 A1 l1 k1 x1)
    obtain ⟨⟨c0, c1, c2⟩, _⟩ := three H1.out
    clear hR hW HO hB
    go_wp2_with fail
    obtain ⟨w2, hw2⟩ : ∃ W, (((w1.alloc (.cells #[.bool n1, .slice A1 l1 k1, .int .i64 x1] 25)).alloc (.cells #[.int .u32 1] 56)).alloc (.cells #[.bool false, .slice (some ⟨w1.heap.size + 1, 0, none⟩) 1 1, .int .i64 (-1080)] 25)) = W := ⟨_, rfl⟩
    have hL := step_lay HRR.out.1 HRR.out.2.size hw2
    rw [hw2]
    have HL := Lib.hid hL
    clear hL hw2
    refine (minus_c3 1080 w.heap.size 3000 (numV u * ((2 ^ 6 : Nat) : Int)) 1 n1 false A1 (some ⟨w1.heap.size + 1, 0, none⟩) l1 1 k1 1 x1 (-1080) w2 (Nat.le_trans HRR.out.2.size HL.out.2.2.2.size) HL.out.2.1 HL.out.2.2.1 HBD.out.1 (by rw [show (1 : Int).natAbs = 1 from rfl]; exact Nat.one_lt_two_pow (by decide)) (by decide) (by decide)).mono ?_
    rintro e w3 ⟨n3, A3, l3, k3, x3, rfl, hR, hW⟩
    have H3 : Hid (Blk w3 w1.heap.size 25 [.bool n1, .slice A1 l1 k1, .int .i64 x1] ∧ NumC 1080 w3 w.heap.size (numV u * ((2 ^ 6 : Nat) : Int) - 1) n3 A3 l3 k3 x3 ∧ Below w.heap.size w w3) := ⟨HL.out.1.below' hW, hR, below_next (below_next HRR.out.2 HL.out.2.2.2) hW⟩
    have hbb : w.heap.size ≤ w1.heap.size := HRR.out.2.size
    clear hR hW HL
    obtain ⟨⟨d0, d1, d2⟩, f0, f1, f2⟩ := three H3.out.1
    obtain ⟨w4, hw4⟩ : ∃ W, ((w3.setCell ⟨w1.heap.size, 0, none⟩ (.bool n3)).setCell ⟨w1.heap.size, 1, none⟩ (.slice A3 l3 k3)).setCell ⟨w1.heap.size, 2, none⟩ (.int .i64 x3) = W := ⟨_, rfl⟩
    have hS := num_store H3.out.1 H3.out.2.1 hbb H3.out.2.2 hw4
    have HS := Lib.hid hS
    clear hS
    obtain ⟨⟨e0, e1, e2⟩, _⟩ := three HS.out.1
    go_wp2_with fail
    try rw [hw4]
    refine (round_c 2 1080 w.heap.size 3000 _ n3 A3 l3 k3 x3 w4 HS.out.2.2.size HS.out.2.1 (HBD.out.2.2) (by decide) (by decide) (by decide)).mono ?_
    rintro e w5 ⟨rfl, hW⟩
    have H5 := Lib.hid (below_next HS.out.2.2 hW)
    clear hW hw4
    unfold optRet
    go_wp2
    go_ret2
    exact ⟨rfl, H5.out⟩
  · have hst : stepS d = 0 := by unfold stepS; rw [if_neg h1, if_neg h2]
    rw [hst, Int.add_zero]
    go_enter Tryz.func40, Tryz.ntmps40
    go_wp2_with fail
    refine HO.out.mono ?_
    rintro e w1 ⟨n1, A1, l1, k1, x1, rfl, hR, hW⟩
    have HRR := Lib.hid (And.intro hR hW)
    have H1 := Lib.hid (num_blk w1 n1 A1 l1 k1 x1)
    obtain ⟨⟨c0, c1, c2⟩, _⟩ := three H1.out
    clear hR hW HO
    obtain ⟨w2, hw2⟩ : ∃ W, (((w1.alloc (.cells #[.bool n1, .slice A1 l1 k1, .int .i64 x1] 25)).alloc (.cells #[.int .u32 1] 56)).alloc (.cells #[.bool false, .slice (some ⟨w1.heap.size + 1, 0, none⟩) 1 1, .int .i64 (-1080)] 25)) = W := ⟨_, rfl⟩
    have hL := step_lay HRR.out.1 HRR.out.2.size hw2
    have HL := Lib.hid hL
    clear hL
    obtain ⟨⟨g0, g1, g2⟩, _⟩ := three HL.out.1
    go_wp2_with fail
    try rw [hw2]
    refine (round_c d 1080 w.heap.size 3000 _ n1 A1 l1 k1 x1 w2 (Nat.le_trans HRR.out.2.size HL.out.2.2.2.size) HL.out.2.1 HBD.out.1 (by decide) (by decide) (by decide)).mono ?_
    rintro e w5 ⟨rfl, hW⟩
    have H5 := Lib.hid (below_next (below_next HRR.out.2 HL.out.2.2.2) hW)
    clear hW hw2
    unfold optRet
    go_wp2
    go_ret2
    exact ⟨rfl, H5.out⟩
end Go.Proofs.YtfgdmiigmcnmpaaGreatFmt

namespace Go.Proofs.YtfgdmiigmcnmpaaGreatFmt
open Go.RowKit
attribute [local go_sem ↓] Go.wp_at_zero Go.wp_at_succ

/-! ### RoundNext -/
theorem next2_calls (d : Int) (u : Nat) (hu : u < 18446744073709551616) (w : World) :
    Calls Tryz.prog 40 #[.int .i64 d, .int .u64 u] w fun e w' => e = optRet (nextS d u) ∧ Below w.heap.size w w' := by
  rcases hf : fin u with _ | _
  · rw [next_bad hf]
    exact next2_bad d u hu hf w
  · have h := next_law (d := d) hu hf
    have e : rndD d 1080 (numV u * ((2 ^ 6 : Nat) : Int) + stepS d) = nextS d u := by
      rw [← h]
      unfold rndD numV
      rw [hf, if_pos rfl]
      rfl
    rw [← e]
    exact next2_fin d u hu hf w
set_option maxHeartbeats 1000000 in
set_option maxRecDepth 100000 in
theorem one0_calls (d : Int) (u : Nat) (hu : u < 18446744073709551616) (w : World) :
    Calls Tryz.prog 15 #[.int .i64 0, .int .i64 d, .float .f64 u, .float .f64 0, .int .i64 0] w fun e w' => e = .returned (.bool true) ∧ Below w.heap.size w w' := by
  have HB1 := Lib.hid (fun W => apibits_calls u W)
  have HB2 := Lib.hid (fun W => apibits_calls 0 W)
  have HN := Lib.hid (fun W => rnext_calls d u hu W)
  have HR := Lib.hid (fun W => next2_calls d u hu W)
  obtain ⟨o, ho⟩ : ∃ o, nextS d u = o := ⟨_, rfl⟩
  rw [ho] at HN HR
  obtain ⟨a, ha⟩ : ∃ a, o.getD 0 = a := ⟨_, rfl⟩
  obtain ⟨b, hb⟩ : ∃ a, o.isSome = a := ⟨_, rfl⟩
  unfold fRet2 at HN
  unfold optRet at HR
  rw [ha, hb] at HN HR
  have HS := Lib.hid (fun W => same_calls a b W)
  clear ho ha hb hu
  go_enter Tryz.func15, Tryz.ntmps15
  go_wp2_with fail
  refine (HB1.out _).mono ?_
  rintro e w' ⟨rfl, rfl⟩
  go_wp2_with fail
  refine (HB2.out _).mono ?_
  rintro e w' ⟨rfl, rfl⟩
  go_wp2_with fail
  refine (HN.out _).mono ?_
  rintro e w' ⟨rfl, rfl⟩
  go_wp2_with fail
  refine (HR.out _).mono ?_
  rintro e w1 ⟨rfl, hW⟩
  have H1 := Lib.hid hW
  clear hW
  go_wp2_with fail
  refine (HS.out _).mono ?_
  rintro e w' ⟨rfl, rfl⟩
  go_wp2
  go_ret
  exact ⟨rfl, H1.out⟩
end Go.Proofs.YtfgdmiigmcnmpaaGreatFmt

namespace Go.Proofs.YtfgdmiigmcnmpaaGreatFmt
open Go.RowKit
attribute [local go_sem ↓] Go.wp_at_zero Go.wp_at_succ

/-! ### ref2.Scale, RoundScales -/
set_option exponentiation.threshold 30000 in
theorem mv_bd {x : Int} (h : x.natAbs < 2 ^ 2098) : (x * ((2 ^ 5126 : Nat) : Int)).natAbs < 2 ^ 20000 := by
  rw [Int.natAbs_mul, Int.natAbs_natCast]
  have h1 := Nat.mul_lt_mul_of_pos_right h (Nat.pow_pos (n := 5126) (a := 2) (by decide))
  rw [← Nat.pow_add] at h1
  exact Nat.lt_of_lt_of_le h1 (Nat.pow_le_pow_right (by decide) (by decide))
set_option exponentiation.threshold 30000 in
set_option maxHeartbeats 1000000 in
set_option maxRecDepth 100000 in
theorem scale2_calls (d : Int) (u : Nat) (n : Int) (hu : u < 18446744073709551616) (w : World) :
    Calls Tryz.prog 47 #[.int .i64 d, .int .u64 u, .int .i64 n] w fun e w' => e = optRet (scaleS 5000 d u n) ∧ Below w.heap.size w w' := by
  have HO := Lib.hid (of_calls u w.heap.size w hu)
  rcases hf : fin u with _ | _
  · rw [hf] at HO
    have hs : scaleS 5000 d u n = none := scale_none (by unfold pairB; rw [hf]; rfl)
    rw [hs]
    clear hu hf hs
    go_enter Tryz.func47, Tryz.ntmps47
    go_wp2_with fail
    refine HO.out.mono ?_
    rintro e w1 ⟨n1, A1, l1, k1, x1, rfl, hR, hW⟩
    have H1 := Lib.hid (below_next hW (below_new (Below.refl w1.heap.size w1) (.cells #[.bool n1, .slice A1 l1 k1, .int .i64 x1] 25)))
    clear hR hW HO
    go_wp2
    go_ret2
    exact ⟨rfl, H1.out⟩
  · rw [hf] at HO
    have hcs : (n < -5000 ∧ clampS 5000 n = -5000) ∨ ((-5000 ≤ n ∧ n ≤ 5000) ∧ clampS 5000 n = n) ∨ (5000 < n ∧ clampS 5000 n = 5000) := by unfold clampS; omega
    have hcb := clamp_bd (b := 5000) (n := n) (by decide)
    obtain ⟨K, hK⟩ : ∃ K : Nat, (K : Int) = 6200 - clampS 5000 n := ⟨(6200 - clampS 5000 n).toNat, by omega⟩
    have HV : Hid (rndD d K (numV u * ((2 ^ 5126 : Nat) : Int)) = scaleS 5000 d u n) := by
      unfold rndD numV
      rw [Hid, hf, if_pos rfl]
      by_cases hd : 0 ≤ d ∧ d ≤ 2
      · rw [if_pos hd, scale_at (pair_zero hf hd) hK]
      · rw [if_neg hd, scale_none]
        unfold pairB; rw [decide_eq_false hd, Bool.and_false]
    have HXB := Lib.hid (mv_bd (numV_bd hu))
    obtain ⟨k, hk⟩ : ∃ k, clampS 5000 n = k := ⟨_, rfl⟩
    rw [hk] at hcs hcb hK
    have HKK : Hid (((K : Nat) : Int) = ((6200 : Nat) : Int) - k) := hK
    have HKB : Hid ((-1073741824 ≤ k ∧ k ≤ 1073741824) ∧ K ≤ 1073741824 ∧ 1074 < K ∧ K ≤ 536870912) := ⟨by omega, by omega, by omega, by omega⟩
    obtain ⟨o, ho⟩ : ∃ o, scaleS 5000 d u n = o := ⟨_, rfl⟩
    rw [ho] at HV ⊢
    clear hu hf hK hcb hk ho
    rcases hcs with ⟨hc, rfl⟩ | ⟨⟨hc, hc2⟩, rfl⟩ | ⟨hc, rfl⟩
    · have d1 : ¬ (-5000 < n) := by omega
      have d2 : ¬ (-5000 ≤ n) := by omega
      go_enter Tryz.func47, Tryz.ntmps47
      go_wp2_with fail
      refine HO.out.mono ?_
      rintro e w1 ⟨n1, A1, l1, k1, x1, rfl, hR, hW⟩
      have hB := below_new (Below.refl w1.heap.size w1) (.cells #[.bool n1, .slice A1 l1 k1, .int .i64 x1] 25)
      have H1 := Lib.hid (And.intro (num_blk w1 n1 A1 l1 k1 x1) (And.intro ((hR.below hB).raise 5126) (below_next hW hB)))
      obtain ⟨⟨c0, c1, c2⟩, _⟩ := three H1.out.1
      clear hR hW HO hB
      go_wp2_with fail
      refine (moved_c3 6200 K w.heap.size 20000 (-5000) (numV u * ((2 ^ 5126 : Nat) : Int)) n1 A1 l1 k1 x1 _ H1.out.2.1 HKK.out HKB.out.1 (by decide) HXB.out (by decide) HKB.out.2.1).mono ?_
      rintro e w2 ⟨n2, A2, l2, k2, x2, rfl, hR, hW⟩
      have H2 := Lib.hid (And.intro hR (below_next H1.out.2.2 hW))
      clear hR hW
      go_wp2_with fail
      refine (round_c d K w.heap.size 20000 _ n2 A2 l2 k2 x2 w2 H2.out.2.size H2.out.1 HXB.out (by decide) HKB.out.2.2.1 HKB.out.2.2.2).mono ?_
      rintro e w3 ⟨rfl, hW⟩
      have H3 := Lib.hid (below_next H2.out.2 hW)
      clear hW
      rw [HV.out]
      unfold optRet
      go_wp2
      go_ret2
      exact ⟨rfl, H3.out⟩
    · have d1 : ¬ (k < -5000) := by omega
      have d2 : ¬ (5000 < k) := by omega
      go_enter Tryz.func47, Tryz.ntmps47
      go_wp2_with fail
      refine HO.out.mono ?_
      rintro e w1 ⟨n1, A1, l1, k1, x1, rfl, hR, hW⟩
      have hB := below_new (Below.refl w1.heap.size w1) (.cells #[.bool n1, .slice A1 l1 k1, .int .i64 x1] 25)
      have H1 := Lib.hid (And.intro (num_blk w1 n1 A1 l1 k1 x1) (And.intro ((hR.below hB).raise 5126) (below_next hW hB)))
      obtain ⟨⟨c0, c1, c2⟩, _⟩ := three H1.out.1
      clear hR hW HO hB
      go_wp2_with fail
      refine (moved_c3 6200 K w.heap.size 20000 k (numV u * ((2 ^ 5126 : Nat) : Int)) n1 A1 l1 k1 x1 _ H1.out.2.1 HKK.out HKB.out.1 (by decide) HXB.out (by decide) HKB.out.2.1).mono ?_
      rintro e w2 ⟨n2, A2, l2, k2, x2, rfl, hR, hW⟩
      have H2 := Lib.hid (And.intro hR (below_next H1.out.2.2 hW))
      clear hR hW
      go_wp2_with fail
      refine (round_c d K w.heap.size 20000 _ n2 A2 l2 k2 x2 w2 H2.out.2.size H2.out.1 HXB.out (by decide) HKB.out.2.2.1 HKB.out.2.2.2).mono ?_
      rintro e w3 ⟨rfl, hW⟩
      have H3 := Lib.hid (below_next H2.out.2 hW)
      clear hW
      rw [HV.out]
      unfold optRet
      go_wp2
      go_ret2
      exact ⟨rfl, H3.out⟩
    · have d1 : ¬ (n < -5000) := by omega
      have d2 : ¬ (n ≤ 5000) := by omega
      have d3 : -5000 ≤ n := by omega
      have d4 : -5000 < n := by omega
      have d5 : ¬ (n < 5000) := by omega
      go_enter Tryz.func47, Tryz.ntmps47
      go_wp2_with fail
      refine HO.out.mono ?_
      rintro e w1 ⟨n1, A1, l1, k1, x1, rfl, hR, hW⟩
      have hB := below_new (Below.refl w1.heap.size w1) (.cells #[.bool n1, .slice A1 l1 k1, .int .i64 x1] 25)
      have H1 := Lib.hid (And.intro (num_blk w1 n1 A1 l1 k1 x1) (And.intro ((hR.below hB).raise 5126) (below_next hW hB)))
      obtain ⟨⟨c0, c1, c2⟩, _⟩ := three H1.out.1
      clear hR hW HO hB
      go_wp2_with fail
      refine (moved_c3 6200 K w.heap.size 20000 5000 (numV u * ((2 ^ 5126 : Nat) : Int)) n1 A1 l1 k1 x1 _ H1.out.2.1 HKK.out HKB.out.1 (by decide) HXB.out (by decide) HKB.out.2.1).mono ?_
      rintro e w2 ⟨n2, A2, l2, k2, x2, rfl, hR, hW⟩
      have H2 := Lib.hid (And.intro hR (below_next H1.out.2.2 hW))
      clear hR hW
      go_wp2_with fail
      refine (round_c d K w.heap.size 20000 _ n2 A2 l2 k2 x2 w2 H2.out.2.size H2.out.1 HXB.out (by decide) HKB.out.2.2.1 HKB.out.2.2.2).mono ?_
      rintro e w3 ⟨rfl, hW⟩
      have H3 := Lib.hid (below_next H2.out.2 hW)
      clear hW
      rw [HV.out]
      unfold optRet
      go_wp2
      go_ret2
      exact ⟨rfl, H3.out⟩
set_option maxHeartbeats 1000000 in
set_option maxRecDepth 100000 in
theorem one5_calls (d : Int) (u : Nat) (n : Int) (hu : u < 18446744073709551616) (w : World) :
    Calls Tryz.prog 15 #[.int .i64 5, .int .i64 d, .float .f64 u, .float .f64 0, .int .i64 n] w fun e w' => e = .returned (.bool true) ∧ Below w.heap.size w w' := by
  have HB1 := Lib.hid (fun W => apibits_calls u W)
  have HB2 := Lib.hid (fun W => apibits_calls 0 W)
  have HN := Lib.hid (fun W => rscale_calls d u n hu W)
  have HR := Lib.hid (fun W => scale2_calls d u n hu W)
  rw [← scale_same d n hu] at HR
  obtain ⟨o, ho⟩ : ∃ o, scaleS 4000 d u n = o := ⟨_, rfl⟩
  rw [ho] at HN HR
  obtain ⟨a, ha⟩ : ∃ a, o.getD 0 = a := ⟨_, rfl⟩
  obtain ⟨b, hb⟩ : ∃ a, o.isSome = a := ⟨_, rfl⟩
  unfold fRet2 at HN
  unfold optRet at HR
  rw [ha, hb] at HN HR
  have HS := Lib.hid (fun W => same_calls a b W)
  clear ho ha hb hu
  go_enter Tryz.func15, Tryz.ntmps15
  go_wp2_with fail
  refine (HB1.out _).mono ?_
  rintro e w' ⟨rfl, rfl⟩
  go_wp2_with fail
  refine (HB2.out _).mono ?_
  rintro e w' ⟨rfl, rfl⟩
  go_wp2_with fail
  refine (HN.out _).mono ?_
  rintro e w0 ⟨rfl, hW⟩
  have H0 := Lib.hid hW
  clear hW
  go_wp2_with fail
  refine (HR.out _).mono ?_
  rintro e w1 ⟨rfl, hW⟩
  have H1 := Lib.hid (below_next H0.out hW)
  clear hW
  go_wp2_with fail
  refine (HS.out _).mono ?_
  rintro e w' ⟨rfl, rfl⟩
  go_wp2
  go_ret
  exact ⟨rfl, H1.out⟩
end Go.Proofs.YtfgdmiigmcnmpaaGreatFmt

namespace Go.Proofs.YtfgdmiigmcnmpaaGreatFmt
open Go.RowKit

/-! ### ref2.Over: its parts -/
theorem NumC.sign {K base : Nat} {w : World} {X : Int} {neg : Bool} {A : Option Addr} {n c : Nat} {x : Int} (h : NumC K w base X neg A n c x) (h0 : X ≠ 0) : neg = decide (X < 0) := by
  obtain ⟨neg', m, e, v, hcs, hm, he, heb, hX⟩ := h
  cases hcs
  rw [hX] at h0 ⊢
  generalize m * 2 ^ (x + K).toNat = q at *
  cases neg
  · simp only [sg, Bool.false_eq_true, if_false] at h0 ⊢
    rw [decide_eq_false (by omega)]
  · simp only [sg, if_true] at h0 ⊢
    rw [decide_eq_true (by omega)]
/-- the mantissa of a number that is not nought -/
theorem NumC.man {K base : Nat} {w : World} {X : Int} {neg : Bool} {A : Option Addr} {n c : Nat} {x : Int} (h : NumC K w base X neg A n c x) (h0 : X ≠ 0) : ∃ m : Nat, mRd.R w base m [.slice A n c] ∧ m ≠ 0 ∧ 0 ≤ x + K ∧ (-1099511627776 ≤ x ∧ x ≤ 1099511627776) ∧ X.natAbs = m * 2 ^ (x + K).toNat ∧ bl X.natAbs = bl m + (x + K).toNat := by
  obtain ⟨neg', m, e, v, hcs, hm, he, heb, hX⟩ := h
  cases hcs
  have hm0 : m ≠ 0 := by rintro rfl; rw [Nat.zero_mul, sg_zero] at hX; exact h0 hX
  have e1 : X.natAbs = m * 2 ^ (x + K).toNat := by rw [hX, sg_abs]
  exact ⟨m, hm, hm0, he hm0, heb, e1, by rw [e1, bl_mul_pow hm0]⟩
/-- of a nought there is no word -/
theorem NumC.len0 {K base : Nat} {w : World} {X : Int} {neg : Bool} {A : Option Addr} {n c : Nat} {x : Int} (h : NumC K w base X neg A n c x) : n = 0 ↔ X = 0 := by
  obtain ⟨neg', m, e, v, hcs, hm, he, heb, hX⟩ := h
  cases hcs
  obtain ⟨xs, A', c', hv, h1, h2, h3, h4⟩ := hm
  cases hv
  have hz := h3.nil_iff (B := B32) (by decide)
  rw [h4] at hz
  rw [hz, hX]
  have hp : 0 < 2 ^ (x + K).toNat := Nat.pow_pos (by decide)
  constructor
  · rintro rfl; rw [Nat.zero_mul, sg_zero]
  · intro h
    have : (sg neg (m * 2 ^ (x + K).toNat)).natAbs = 0 := by rw [h]; rfl
    rw [sg_abs] at this
    rcases Nat.mul_eq_zero.1 this with h | h
    · exact h
    · omega
/-- the same cells without the sign -/
theorem NumC.pos {K base : Nat} {w : World} {X : Int} {neg : Bool} {A : Option Addr} {n c : Nat} {x : Int} (h : NumC K w base X neg A n c x) : NumC K w base (X.natAbs : Int) false A n c x := by
  obtain ⟨neg', m, e, v, hcs, hm, he, heb, hX⟩ := h
  cases hcs
  exact ⟨false, m, x, _, rfl, hm, he, heb, by rw [hX, sg_abs]; rfl⟩
theorem part_num (K base L X Y : Nat) (A1 A2 : Option Addr) (l1 l2 k1 k2 : Nat) (x1 x2 : Int) (w : World) (hb : base ≤ w.heap.size) (hx : NumC K w base (X : Int) false A1 l1 k1 x1) (hy : NumC K w base (Y : Int) false A2 l2 k2 x2) (h0x : X ≠ 0) (h0y : Y ≠ 0) (hX : X < 2 ^ L) (hY : Y < 2 ^ L) (hL : L ≤ 1073741824) :
    Calls Tryz.prog 106 #[.agg #[.bool false, .slice A1 l1 k1, .int .i64 x1], .agg #[.bool false, .slice A2 l2 k2, .int .i64 x2]] w fun r w' =>
      ∃ v', r = .returned (.tuple #[.agg #[.bool false, v', .int .i64 0], .bool (restB (X % Y))]) ∧ mRd.R w' base (X / Y) [v'] ∧ Below w.heap.size w w' := by
  obtain ⟨m1, a1, a2, a3, a4, a5, -⟩ := hx.man (by omega)
  obtain ⟨m2, b1, b2, b3, b4, b5, -⟩ := hy.man (by omega)
  rw [Int.natAbs_natCast] at a5 b5
  exact part_calls K base L x1 x2 m1 m2 _ _ w hb a1 b1 a2 b2 a3 b3 a4 b4 (by rw [sg_abs, ← a5]; exact hX) (by rw [sg_abs, ← b5]; exact hY) hL X Y a5.symm b5.symm
theorem len_num (K base L : Nat) (X : Int) (neg : Bool) (A : Option Addr) (l k : Nat) (x : Int) (w : World) (hx : NumC K w base X neg A l k x) (h0 : X ≠ 0) (hX : X.natAbs < 2 ^ L) (hL : L ≤ 1073741824) :
    ∃ b : Nat, (b : Int) + x + K = bl X.natAbs ∧ b ≤ L ∧ ∀ W, Below w.heap.size w W → Calls Tryz.prog 101 #[.slice A l k] W fun e w' => e = .returned (.int .i64 (b : Int)) ∧ W = w' := by
  obtain ⟨m, h1, h2, h3, h4, h5, h6⟩ := hx.man h0
  obtain ⟨xs, A', c', hv, g1, g2, g3, g4⟩ := h1
  cases hv
  have hm : m < 2 ^ L := by
    refine Nat.lt_of_le_of_lt ?_ hX
    rw [h5]; exact Nat.le_mul_of_pos_right _ (Nat.pow_pos (by decide))
  have hl := man_len g3 g4 hm
  refine ⟨bl m, by omega, bl_le_of_lt hm, fun W hW => ?_⟩
  have := length_calls A xs.length k 56 base xs W rfl (g2.below hW) (by omega) g3
  rw [g4] at this
  exact this
end Go.Proofs.YtfgdmiigmcnmpaaGreatFmt
