/- Walks and plain laws of this seat's functions, part 44: S22 S20 S21 S23. -/
import Derived.Test.YtogjodnmegafdaaGreatFmtJ36
import Derived.Test.YtogjodnmegafdaaGreatFmtJ39
import Derived.Test.YtogjodnmegafdaaGreatFmtJ41
set_option linter.unusedVariables false
set_option linter.unusedSimpArgs false
namespace Go.Proofs.YtogjodnmegafdaaGreatFmt
open Go.RowKit

/-! ### RoundNext's plain law -/
theorem next_law {d : Int} {u : Nat} (hu : u < 18446744073709551616) (hf : fin u = true) : (if 0 ≤ d ∧ d ≤ 2 then rndS d 1080 (fv u * 64 + stepS d) else none) = nextS d u := by
  unfold nextS stepS
  by_cases hd : 0 ≤ d ∧ d ≤ 2
  · rw [if_pos hd, pair_zero hf hd, if_pos rfl]
    have h2 := (word_of hu hf).2
    rw [fv_zero_iff hu hf]
    obtain rfl | rfl | rfl : d = 0 ∨ d = 1 ∨ d = 2 := by omega
    · have h := rndS_word (K := 1080) (by decide) 0 (fneg u) h2
      have e : (((2 ^ (1080 - 1074) : Nat)) : Int) = 64 := by decide
      rw [e] at h
      rw [if_neg (by decide), if_neg (by decide), if_neg (by decide), if_neg (by decide), Int.add_zero]
      exact h
    · rw [if_pos rfl, if_pos rfl]
      exact next_up _ h2
    · rw [if_neg (by decide), if_pos rfl, if_neg (by decide), if_pos rfl]
      exact next_down _ h2
  · rw [if_neg hd]
    have : pairB d u 0 = false := by unfold pairB; rw [decide_eq_false hd, Bool.and_false]
    rw [this, if_neg (by decide)]
theorem next_bad {d : Int} {u : Nat} (hf : fin u = false) : nextS d u = none := by
  have : pairB d u 0 = false := by unfold pairB; rw [hf]; rfl
  unfold nextS
  rw [this, if_neg (by decide)]
end Go.Proofs.YtogjodnmegafdaaGreatFmt

namespace Go.Proofs.YtogjodnmegafdaaGreatFmt
open Go.RowKit

/-! ### RoundOrders' plain law -/
/-- o is told by d of the real Z / D -/
structure Tld (d : Int) (Z : Int) (D : Nat) (o : Option Nat) : Prop where
  pos : 0 < D
  is : ∃ L inx nm, Brk Z.natAbs D L inx nm ∧ o = outR d (decide (Z < 0)) (mrD d (decide (Z < 0)) inx nm) (L + (mrD d (decide (Z < 0)) inx nm).toNat)
theorem tld_rnd {K : Nat} (hK : 1074 < K) (d X : Int) : Tld d X (2 ^ (K - 1074)) (rndS d K X) := by
  obtain ⟨L, inx, nm, b, h⟩ := rndS_brk K hK X
  exact ⟨Nat.pow_pos (by decide), L, inx, nm, b, h d⟩
theorem zneg {Z : Int} {m : Nat} (hm : 0 < m) : decide (Z * (m : Int) < 0) = decide (Z < 0) := by
  rw [Bool.eq_iff_iff, decide_eq_true_eq, decide_eq_true_eq]
  constructor
  · intro h
    rcases Int.lt_or_le Z 0 with h1 | h1
    · exact h1
    · have := Int.mul_nonneg h1 (show (0 : Int) ≤ (m : Int) by omega); omega
  · intro h
    exact Int.mul_neg_of_neg_of_pos h (by omega)
theorem Tld.scale {d Z : Int} {D m : Nat} {o : Option Nat} (h : Tld d Z D o) (hm : 0 < m) : Tld d (Z * (m : Int)) (D * m) o := by
  obtain ⟨h1, L, inx, nm, b, h2⟩ := h
  refine ⟨Nat.mul_pos h1 hm, L, inx, nm, ?_, ?_⟩
  · rw [Int.natAbs_mul, Int.natAbs_natCast]; exact b.scale hm
  · rw [zneg hm]; exact h2
/-- the lesser real has no greater number -/
theorem Tld.le {d Z1 Z2 : Int} {D1 D2 : Nat} {o1 o2 : Option Nat} (h1 : Tld d Z1 D1 o1) (h2 : Tld d Z2 D2 o2) (h : Z1 * (D2 : Int) ≤ Z2 * (D1 : Int)) {x y : Nat} (e1 : o1 = some x) (e2 : o2 = some y) :
    ∃ a r b s, x = sgnR a r ∧ y = sgnR b s ∧ r < INFR ∧ s < INFR ∧ sval a r ≤ sval b s := by
  have k1 := h1.scale h2.pos
  have k2 := h2.scale h1.pos
  rw [Nat.mul_comm D2 D1] at k2
  obtain ⟨-, L1, i1, n1, b1, f1⟩ := k1
  obtain ⟨-, L2, i2, n2, b2, f2⟩ := k2
  rw [e1] at f1
  rw [e2] at f2
  refine told_mono b1 b2 (by rw [sg_self, sg_self]; exact h) ?_ ?_ d f1.symm f2.symm
  · intro h; simp only [decide_eq_true_eq] at h; omega
  · intro h; simp only [decide_eq_true_eq] at h; omega
/-- what orders tells -/
def ordB (c : Int) (x y : Option Nat) : Bool := if !x.isSome || !y.isSome || decide (c = 0) then (!x.isSome || !y.isSome || Ieee.double.order (x.getD 0) (y.getD 0) == some .eq) else (decide (c < 0) && (Ieee.double.order (x.getD 0) (y.getD 0) == some .lt || Ieee.double.order (x.getD 0) (y.getD 0) == some .eq)) || (decide (0 < c) && (Ieee.double.order (y.getD 0) (x.getD 0) == some .lt || Ieee.double.order (y.getD 0) (x.getD 0) == some .eq))
theorem ord_sval {a b : Bool} {r s : Nat} (hr : r < INFR) (hs : s < INFR) (h : sval a r ≤ sval b s) : (Ieee.double.order (sgnR a r) (sgnR b s) == some .lt || Ieee.double.order (sgnR a r) (sgnR b s) == some .eq) = true := by
  rw [order_sgn hr hs]
  rcases Int.lt_or_eq_of_le h with h | h
  · rw [Int.compare_eq_lt.2 h]; rfl
  · rw [Int.compare_eq_eq.2 h]; rfl
theorem Tld.orders {d Z1 Z2 : Int} {D1 D2 : Nat} {o1 o2 : Option Nat} (h1 : Tld d Z1 D1 o1) (h2 : Tld d Z2 D2 o2) {c : Int} (hc : c = Int.sign (Z1 * (D2 : Int) - Z2 * (D1 : Int))) : ordB c o1 o2 = true := by
  unfold ordB
  cases o1 with
  | none => rfl
  | some x =>
    cases o2 with
    | none => rfl
    | some y =>
      simp only [Option.isSome_some, Bool.not_true, Bool.false_or, Option.getD_some]
      rcases Int.lt_trichotomy (Z1 * (D2 : Int)) (Z2 * (D1 : Int)) with h | h | h
      · obtain ⟨a, r, b, s, rfl, rfl, hr, hs, hle⟩ := h1.le h2 (Int.le_of_lt h) rfl rfl
        rw [Int.sign_eq_neg_one_of_neg (by omega)] at hc
        subst hc
        rw [ord_sval hr hs hle]; rfl
      · obtain ⟨a, r, b, s, rfl, rfl, hr, hs, hle⟩ := h1.le h2 (Int.le_of_eq h) rfl rfl
        obtain ⟨a', r', b', s', e1, e2, hr', hs', hle'⟩ := h2.le h1 (Int.le_of_eq h.symm) rfl rfl
        have e : sval a r = sval b s := by
          refine Int.le_antisymm hle ?_
          have hA := ord_sval hr' hs' hle'
          rw [← e1, ← e2, order_sgn hs hr] at hA
          rcases Int.lt_trichotomy (sval b s) (sval a r) with h | h | h
          · exact Int.le_of_lt h
          · exact Int.le_of_eq h
          · rw [Int.compare_eq_gt.2 h] at hA; exact absurd hA (by decide)
        have hc0 : c = 0 := by rw [hc, h, Int.sub_self]; rfl
        subst hc0
        rw [order_sgn hr hs, e, Int.compare_eq_eq.2 rfl]; rfl
      · obtain ⟨a, r, b, s, rfl, rfl, hr, hs, hle⟩ := h2.le h1 (Int.le_of_lt h) rfl rfl
        rw [Int.sign_eq_one_of_pos (by omega)] at hc
        subst hc
        rw [ord_sval hr hs hle]; rfl
end Go.Proofs.YtogjodnmegafdaaGreatFmt

namespace Go.Proofs.YtogjodnmegafdaaGreatFmt
open Go.RowKit

/-! ### RoundOrders' plain law: the three orders -/
set_option exponentiation.threshold 3000 in
theorem tld_div {d : Int} {u v : Nat} (hu : u < 18446744073709551616) (hv : v < 18446744073709551616) (hp : pairB d u v = true) (hv0 : uabs v ≠ 0) : Tld d (fv u * Int.sign (fv v) * ((2 ^ 1074 : Nat) : Int)) (fv v).natAbs (divS d u v) := by
  obtain ⟨fu, fv', -, -⟩ := pairB_true hp
  have eu := fv_zero_iff hu fu
  have ev := fv_zero_iff hv fv'
  have hB := rv_pos hv0
  have hD : (fv v).natAbs = rv (uabs v) := by rw [ev, sg_abs]
  have hs : Int.sign (fv v) = if fneg v then -1 else 1 := by rw [ev]; exact sign_sgv _ hB
  rw [div_true hp hv0, hD, hs]
  refine ⟨hB, ?_⟩
  by_cases hu0 : uabs u = 0
  · rw [if_pos hu0]
    have e : fv u = 0 := by rw [eu, hu0, rv_zero]; cases fneg u <;> rfl
    rw [e, Int.zero_mul, Int.zero_mul]
    have b := brk_exact 0 (rv (uabs v)) hB
    rw [rv_zero, Nat.zero_mul] at b
    refine ⟨0, false, false, b, ?_⟩
    rw [mrD_exact]
    rw [outR_fin (by decide)]; rfl
  · rw [if_neg hu0]
    obtain ⟨L, inx, nm, b, hq⟩ := qS_brk (rv_ne hu0) (rv_ne hv0) 0 false
    have e : fv u * (if fneg v then -1 else 1) * ((2 ^ 1074 : Nat) : Int) = sg (fneg u != fneg v) (rv (uabs u) * 2 ^ 1074) := by
      rw [eu]
      have : sg (fneg u) (rv (uabs u)) * (if fneg v then -1 else 1) = sg (fneg u != fneg v) (rv (uabs u)) := by
        cases fneg u <;> cases fneg v <;> simp [sg]
      rw [this, sg_pow]
    have hN : 0 < rv (uabs u) * 2 ^ 1074 := Nat.mul_pos (rv_pos hu0) (Nat.pow_pos (by decide))
    rw [e]
    refine ⟨L, inx, nm, by rw [sg_abs]; exact b, ?_⟩
    rw [sgR_lt hN, hq]
theorem sign_idem (x : Int) : Int.sign (Int.sign x) = Int.sign x := by
  rcases Int.lt_trichotomy x 0 with h | h | h
  · rw [Int.sign_eq_neg_one_of_neg h]; rfl
  · subst h; rfl
  · rw [Int.sign_eq_one_of_pos h]; rfl
theorem abs_sign (x : Int) : ((x.natAbs : Nat) : Int) = Int.sign x * x := by
  rcases Int.lt_trichotomy x 0 with h | h | h
  · rw [Int.sign_eq_neg_one_of_neg h]; omega
  · subst h; rfl
  · rw [Int.sign_eq_one_of_pos h]; omega
theorem sign_mul_pos {x : Int} {m : Nat} (hm : 0 < m) : Int.sign (x * (m : Int)) = Int.sign x := by
  rw [Int.sign_mul, Int.sign_eq_one_of_pos (by omega : (0 : Int) < m), Int.mul_one]
theorem ratio_alg (x y u v s t p : Int) : x * s * p * (t * v) - u * t * p * (s * y) = s * t * (x * v - u * y) * p := by
  rw [Int.mul_sub, Int.sub_mul]
  simp only [Int.mul_comm, Int.mul_left_comm]
theorem mixed_alg (x u v t p q : Int) : x * (t * v) - u * t * p * q = t * (x * v - u * (p * q)) := by
  rw [Int.mul_sub]
  simp only [Int.mul_comm, Int.mul_left_comm]
theorem ord_none1 (c : Int) (o : Option Nat) : ordB c none o = true := rfl
theorem ord_none2 (c : Int) (o : Option Nat) : ordB c o none = true := by unfold ordB; cases o <;> rfl
set_option exponentiation.threshold 9000 in
/-- two quotients -/
theorem ord_ratios {d : Int} {x y u v : Nat} (hx : x < 18446744073709551616) (hy : y < 18446744073709551616) (hu : u < 18446744073709551616) (hv : v < 18446744073709551616) :
    ordB (Int.sign (fv y) * Int.sign (fv v) * Int.sign (fv x * fv v - fv u * fv y)) (divS d x y) (divS d u v) = true := by
  cases h1 : divS d x y with
  | none => exact ord_none1 _ _
  | some p =>
    cases h2 : divS d u v with
    | none => exact ord_none2 _ _
    | some q =>
      rw [← h1, ← h2]
      have a1 : pairB d x y = true := by
        cases h : pairB d x y
        · rw [div_false1 h] at h1; cases h1
        · rfl
      have a2 : pairB d u v = true := by
        cases h : pairB d u v
        · rw [div_false1 h] at h2; cases h2
        · rfl
      have b1 : uabs y ≠ 0 := by intro h; rw [div_false2 h] at h1; cases h1
      have b2 : uabs v ≠ 0 := by intro h; rw [div_false2 h] at h2; cases h2
      refine (tld_div hx hy a1 b1).orders (tld_div hu hv a2 b2) ?_
      rw [abs_sign, abs_sign, ratio_alg, sign_mul_pos (Nat.pow_pos (by decide)), Int.sign_mul, Int.sign_mul, sign_idem, sign_idem]
set_option exponentiation.threshold 9000 in
theorem scale_some {d : Int} {u p : Nat} {n : Int} (h : scaleS 4000 d u n = some p) (hn : -4000 ≤ n ∧ n ≤ 4000) : ∃ K : Nat, (K : Int) = 6200 - n ∧ scaleS 4000 d u n = rndS d K (fv u * ((2 ^ 5126 : Nat) : Int)) := by
  have a1 : pairB d u 0 = true := by
    cases h' : pairB d u 0
    · rw [scale_none h'] at h; cases h
    · rfl
  refine ⟨(6200 - n).toNat, by omega, ?_⟩
  exact scale_at a1 (by rw [clamp_in hn]; omega)
set_option exponentiation.threshold 9000 in
/-- two scaled numbers -/
theorem ord_scales {d : Int} {u v : Nat} {n m : Int} (hn : -4000 ≤ n ∧ n ≤ 4000) (hm : -4000 ≤ m ∧ m ≤ 4000) :
    ordB (Int.sign (fv u * ((2 ^ 5126 : Nat) : Int) * ((2 ^ (5126 - m).toNat : Nat) : Int) - fv v * ((2 ^ 5126 : Nat) : Int) * ((2 ^ (5126 - n).toNat : Nat) : Int))) (scaleS 4000 d u n) (scaleS 4000 d v m) = true := by
  cases h1 : scaleS 4000 d u n with
  | none => exact ord_none1 _ _
  | some p =>
    cases h2 : scaleS 4000 d v m with
    | none => exact ord_none2 _ _
    | some q =>
      obtain ⟨K, hK, e1⟩ := scale_some h1 hn
      obtain ⟨K', hK', e2⟩ := scale_some h2 hm
      rw [← h1, ← h2, e1, e2]
      refine (tld_rnd (by omega) d _).orders (tld_rnd (by omega) d _) ?_
      have f1 : (5126 - m).toNat = K' - 1074 := by omega
      have f2 : (5126 - n).toNat = K - 1074 := by omega
      rw [f1, f2]
set_option exponentiation.threshold 9000 in
/-- a scaled number and a quotient -/
theorem ord_mixed {d : Int} {a u v : Nat} {n : Int} (hu : u < 18446744073709551616) (hv : v < 18446744073709551616) (hn : -4000 ≤ n ∧ n ≤ 4000) :
    ordB (Int.sign (fv v) * Int.sign (fv a * ((2 ^ 5126 : Nat) : Int) * fv v - fv u * ((2 ^ (6200 - n).toNat : Nat) : Int))) (scaleS 4000 d a n) (divS d u v) = true := by
  cases h1 : scaleS 4000 d a n with
  | none => exact ord_none1 _ _
  | some p =>
    cases h2 : divS d u v with
    | none => exact ord_none2 _ _
    | some q =>
      obtain ⟨K, hK, e1⟩ := scale_some h1 hn
      rw [← h1, ← h2, e1]
      have a2 : pairB d u v = true := by
        cases h : pairB d u v
        · rw [div_false1 h] at h2; cases h2
        · rfl
      have b2 : uabs v ≠ 0 := by intro h; rw [div_false2 h] at h2; cases h2
      refine (tld_rnd (by omega) d _).orders (tld_div hu hv a2 b2) ?_
      have f1 : (6200 - n).toNat = 1074 + (K - 1074) := by omega
      rw [f1, ← pow_int, abs_sign, mixed_alg, Int.sign_mul, sign_idem]
end Go.Proofs.YtogjodnmegafdaaGreatFmt

namespace Go.Proofs.YtogjodnmegafdaaGreatFmt
open Go.RowKit

/-! ### RoundHolds' plain law -/
theorem sgn_nneg {x : Int} : decide (0 ≤ Int.sign x) = decide (0 ≤ x) := by
  rcases Int.lt_trichotomy x 0 with h | h | h
  · rw [Int.sign_eq_neg_one_of_neg h, decide_eq_false (by omega), decide_eq_false (by omega)]
  · subst h; rfl
  · rw [Int.sign_eq_one_of_pos h, decide_eq_true (by omega), decide_eq_true (by omega)]
theorem sgn_npos {x : Int} : decide (Int.sign x ≤ 0) = decide (x ≤ 0) := by
  rcases Int.lt_trichotomy x 0 with h | h | h
  · rw [Int.sign_eq_neg_one_of_neg h, decide_eq_true (by omega), decide_eq_true (by omega)]
  · subst h; rfl
  · rw [Int.sign_eq_one_of_pos h, decide_eq_false (by omega), decide_eq_false (by omega)]
theorem sgn_le0 {x : Int} (h : x ≤ 0) : Int.sign x ≤ 0 := by
  have := sgn_npos (x := x)
  rw [decide_eq_true h] at this; simpa using this
/-- in the middle of P and Q (the numbers of p and q), or nearer to one of them -/
def leftS (X P Q : Int) : Int := Int.sign ((X - P) - (Q - X))
structure HoldsP (D : Nat) (X : Int) (lo hi m : Option Nat) : Prop where
  ha : lo.isSome = decide (0 ≤ Int.sign (X - -((rv MAXB * D : Nat) : Int)))
  hb : hi.isSome = decide (Int.sign (X - ((rv MAXB * D : Nat) : Int)) ≤ 0)
  hc : lo = none → hi = some 18442240474082181119 ∧ Int.sign ((X.natAbs : Int) - ((rv MAXB * D : Nat) : Int)) = 1
  hc' : hi = none → lo = some 9218868437227405311 ∧ Int.sign ((X.natAbs : Int) - ((rv MAXB * D : Nat) : Int)) = 1
  hd : ∀ p q, lo = some p → hi = some q → ((p < 18446744073709551616 ∧ fin p = true) ∧ (q < 18446744073709551616 ∧ fin q = true)) ∧ Int.sign (fv p * (D : Int) - X) ≤ 0 ∧ Int.sign (X - fv q * (D : Int)) ≤ 0 ∧
    ∃ mm, m = some mm ∧ ((p = q ∧ mm = p ∧ Ieee.double.order p p = some .eq ∧ leftS X (fv p * (D : Int)) (fv q * (D : Int)) = 0) ∨
      (Ieee.double.order p q ≠ some .eq ∧ Ieee.double.order p p = some .eq ∧ Ieee.double.order q q = some .eq ∧ nextS 1 p = some q ∧ Int.sign (fv p * (D : Int) - X) ≠ 0 ∧ Int.sign (X - fv q * (D : Int)) ≠ 0 ∧
        ((leftS X (fv p * (D : Int)) (fv q * (D : Int)) = -1 ∧ mm = p) ∨ (leftS X (fv p * (D : Int)) (fv q * (D : Int)) = 1 ∧ mm = q) ∨ (leftS X (fv p * (D : Int)) (fv q * (D : Int)) = 0 ∧ mm % 2 = 0 ∧ (mm = p ∨ mm = q)))))
theorem max_iff {N D L : Nat} {inx nm : Bool} (hD : 0 < D) (b : Brk N D L inx nm) : L + inx.toNat < INFR ↔ N ≤ rv MAXB * D := by
  have := brk_max hD b
  by_cases h : N ≤ rv MAXB * D
  · rw [decide_eq_true h] at this; simp only [decide_eq_true_eq] at this; exact ⟨fun _ => h, fun _ => this⟩
  · rw [decide_eq_false h] at this; simp only [decide_eq_false_iff_not] at this; exact ⟨fun h' => absurd h' this, fun h' => absurd h' h⟩
theorem even_sgn {n : Bool} {r : Nat} (h : r % 2 = 0) : sgnR n r % 2 = 0 := by unfold sgnR; split <;> omega
/-- the nearer one of two neighbours, by the sign of 2N - (a + c) -/
theorem near_pick {N a c L : Nat} {nm : Bool} (h : nm = (decide (a + c < 2 * N) || (decide (a + c = 2 * N) && decide (L % 2 = 1)))) :
    (2 * N < a + c ∧ nm = false) ∨ (a + c < 2 * N ∧ nm = true) ∨ (a + c = 2 * N ∧ (L + nm.toNat) % 2 = 0) := by
  rcases Nat.lt_trichotomy (a + c) (2 * N) with h1 | h1 | h1
  · exact .inr (.inl ⟨h1, by rw [h, decide_eq_true h1]; rfl⟩)
  · refine .inr (.inr ⟨h1, ?_⟩)
    rw [decide_eq_false (by omega), decide_eq_true h1, Bool.false_or, Bool.true_and] at h
    rw [h]
    rcases Nat.mod_two_eq_zero_or_one L with h2 | h2
    · rw [decide_eq_false (by omega)]; exact h2
    · rw [decide_eq_true h2]; show (L + 1) % 2 = 0; omega
  · refine .inl ⟨h1, ?_⟩
    rw [h, decide_eq_false (by omega), decide_eq_false (by omega)]; rfl
theorem sgn_num (n : Bool) (a D : Nat) : sg n a * (D : Int) = if n then -((a * D : Nat) : Int) else ((a * D : Nat) : Int) := by
  rw [Int.natCast_mul]; cases n <;> simp [sg, Int.neg_mul]
theorem holds_law {K : Nat} (hK : 1074 < K) (X : Int) : HoldsP (2 ^ (K - 1074)) X (rndS 2 K X) (rndS 1 K X) (rndS 0 K X) := by
  obtain ⟨L, inx, nm, b, h⟩ := rndS_brk K hK X
  obtain ⟨hx1, hx2⟩ := brk_ix b
  have hn : inx = false → nm = false := fun h => (hx1 h).1
  have h3 : Three (decide (X < 0)) L inx nm (rndS 2 K X) (rndS 1 K X) (rndS 0 K X) := ⟨h 2, h 1, h 0⟩
  have hD : 0 < 2 ^ (K - 1074) := Nat.pow_pos (by decide)
  obtain ⟨D, hDD⟩ : ∃ D, 2 ^ (K - 1074) = D := ⟨_, rfl⟩
  rw [hDD] at hD b hx1 hx2 ⊢
  have hmax := max_iff hD b
  have hlo := b.lo
  have hhi := b.hi
  have hnr := b.nr
  rw [Nat.add_mul] at hnr
  have hpick := near_pick hnr
  obtain ⟨T, hT⟩ : ∃ T, rv MAXB * D = T := ⟨_, rfl⟩
  have hXs := sg_self X
  obtain ⟨N, hN⟩ : ∃ N, X.natAbs = N := ⟨_, rfl⟩
  rw [hN] at hXs hmax hlo hhi hx1 hx2 hpick
  rw [hT] at hmax
  obtain ⟨lo, hlo'⟩ : ∃ o, rndS 2 K X = o := ⟨_, rfl⟩
  obtain ⟨hi, hhi'⟩ : ∃ o, rndS 1 K X = o := ⟨_, rfl⟩
  obtain ⟨m, hm'⟩ : ∃ o, rndS 0 K X = o := ⟨_, rfl⟩
  rw [hlo', hhi', hm'] at h3 ⊢
  have hmx : MAXB < INFR := by decide
  have hin : INFR = 9218868437227405312 := rfl
  have hmb : MAXB = 9218868437227405311 := rfl
  obtain ⟨a, hav⟩ : ∃ a, rv L * D = a := ⟨_, rfl⟩
  obtain ⟨c, hcv⟩ : ∃ a, rv (L + 1) * D = a := ⟨_, rfl⟩
  rw [hav] at hlo hx1 hx2 hpick
  rw [hcv] at hhi hpick
  clear h hDD b hnr hlo' hhi' hm'
  rcases three_cases h3 hn with ⟨e, elo, ehi⟩ | ⟨e, ehi, elo⟩
  · rw [e] at hXs h3
    have hX : X = (N : Int) := hXs.symm
    have h0 : 0 ≤ X := by omega
    refine ⟨?_, ?_, ?_, ?_, ?_⟩
    · rw [elo, sgn_nneg, hT, decide_eq_true (by omega)]; rfl
    · rw [ehi, sgn_npos, hT]
      by_cases hL : L + inx.toNat < INFR
      · rw [if_pos hL, decide_eq_true (by have := hmax.1 hL; omega)]; rfl
      · rw [if_neg hL, decide_eq_false (by intro h; exact hL (hmax.2 (by omega)))]; rfl
    · intro h; rw [elo] at h; cases h
    · intro h
      rw [ehi] at h
      by_cases hL : L + inx.toNat < INFR
      · rw [if_pos hL] at h; cases h
      · have hNT : ¬ N ≤ T := fun h => hL (hmax.2 h)
        have hi1 : inx.toNat ≤ 1 := by cases inx <;> decide
        rw [elo, Nat.min_eq_right (by omega), hN, hT, Int.sign_eq_one_of_pos (by omega)]
        exact ⟨rfl, rfl⟩
    · intro p q h1 h2
      rw [elo] at h1
      rw [ehi] at h2
      split at h2
      · next hL =>
        have hi1 : inx.toNat ≤ 1 := by cases inx <;> decide
        rw [Nat.min_eq_left (by omega)] at h1
        have hL0 : L < INFR := by omega
        obtain rfl := Option.some.inj h1
        obtain rfl := Option.some.inj h2
        refine ⟨⟨⟨sgn_lt hL0, sgn_fin hL0⟩, sgn_lt hL, sgn_fin hL⟩, ?_⟩
        rw [sgn_fv hL0, sgn_fv hL, sgn_num, sgn_num, if_neg (by decide), if_neg (by decide), hav]
        cases inx
        · have hm := three_near h3 hn hL
          rw [Bool.toNat_false, Nat.add_zero, hav]
          obtain ⟨hnm, haN⟩ := hx1 rfl
          refine ⟨sgn_le0 (by omega), sgn_le0 (by omega), sgnR false L, ?_, .inl ⟨rfl, rfl, sgn_self hL0, ?_⟩⟩
          · rcases hm with h | ⟨h, -⟩
            · exact h
            · cases h
          · unfold leftS
            rw [show X - (a : Int) - ((a : Int) - X) = 0 by omega]; rfl
        · have hL' : L + 1 < INFR := hL
          have ec : rv (L + true.toNat) * D = c := hcv
          rw [ec]
          have haN := hx2 rfl
          have m0 : mrD 0 false true nm = nm := by unfold mrD; simp
          have h3m := h3.m
          have hnm1 : nm.toNat ≤ 1 := by cases nm <;> decide
          rw [m0, outR_fin (by omega)] at h3m
          refine ⟨sgn_le0 (by omega), sgn_le0 (by omega), _, h3m, .inr ⟨(sgn_ne hL').1, sgn_self hL0, sgn_self hL, next_of_pos hL', ?_, ?_, ?_⟩⟩
          · rw [Int.sign_eq_neg_one_of_neg (by omega)]; decide
          · rw [Int.sign_eq_neg_one_of_neg (by omega)]; decide
          · unfold leftS
            rcases hpick with ⟨k1, k2⟩ | ⟨k1, k2⟩ | ⟨k1, k2⟩
            · exact .inl ⟨Int.sign_eq_neg_one_of_neg (by omega), by rw [k2]; rfl⟩
            · exact .inr (.inl ⟨Int.sign_eq_one_of_pos (by omega), by rw [k2]⟩)
            · refine .inr (.inr ⟨?_, even_sgn k2, ?_⟩)
              · rw [show X - (a : Int) - ((c : Int) - X) = 0 by omega]; rfl
              · cases nm
                · exact .inl rfl
                · exact .inr rfl
      · cases h2
  · rw [e] at hXs h3
    have hX : X = -(N : Int) := hXs.symm
    have hneg : X < 0 := by simpa using e
    refine ⟨?_, ?_, ?_, ?_, ?_⟩
    · rw [elo, sgn_nneg, hT]
      by_cases hL : L + inx.toNat < INFR
      · rw [if_pos hL, decide_eq_true (by have := hmax.1 hL; omega)]; rfl
      · rw [if_neg hL, decide_eq_false (by intro h; exact hL (hmax.2 (by omega)))]; rfl
    · rw [ehi, sgn_npos, hT, decide_eq_true (by omega)]; rfl
    · intro h
      rw [elo] at h
      by_cases hL : L + inx.toNat < INFR
      · rw [if_pos hL] at h; cases h
      · have hNT : ¬ N ≤ T := fun h => hL (hmax.2 h)
        have hi1 : inx.toNat ≤ 1 := by cases inx <;> decide
        rw [ehi, Nat.min_eq_right (by omega), hN, hT, Int.sign_eq_one_of_pos (by omega)]
        exact ⟨rfl, rfl⟩
    · intro h; rw [ehi] at h; cases h
    · intro p q h1 h2
      rw [elo] at h1
      rw [ehi] at h2
      split at h1
      · next hL =>
        have hi1 : inx.toNat ≤ 1 := by cases inx <;> decide
        rw [Nat.min_eq_left (by omega)] at h2
        have hL0 : L < INFR := by omega
        obtain rfl := Option.some.inj h1
        obtain rfl := Option.some.inj h2
        refine ⟨⟨⟨sgn_lt hL, sgn_fin hL⟩, sgn_lt hL0, sgn_fin hL0⟩, ?_⟩
        rw [sgn_fv hL0, sgn_fv hL, sgn_num, sgn_num, if_pos rfl, if_pos rfl, hav]
        cases inx
        · have hm := three_near h3 hn hL
          rw [Bool.toNat_false, Nat.add_zero, hav]
          obtain ⟨hnm, haN⟩ := hx1 rfl
          refine ⟨sgn_le0 (by omega), sgn_le0 (by omega), sgnR true L, ?_, .inl ⟨rfl, rfl, sgn_self hL0, ?_⟩⟩
          · rcases hm with h | ⟨h, -⟩
            · exact h
            · cases h
          · unfold leftS
            rw [show X - -(a : Int) - (-(a : Int) - X) = 0 by omega]; rfl
        · have hL' : L + 1 < INFR := hL
          have ec : rv (L + true.toNat) * D = c := hcv
          rw [ec]
          have haN := hx2 rfl
          have m0 : mrD 0 true true nm = nm := by unfold mrD; simp
          have h3m := h3.m
          have hnm1 : nm.toNat ≤ 1 := by cases nm <;> decide
          rw [m0, outR_fin (by omega)] at h3m
          refine ⟨sgn_le0 (by omega), sgn_le0 (by omega), _, h3m, .inr ⟨(sgn_ne hL').2, sgn_self hL, sgn_self hL0, next_of_neg hL', ?_, ?_, ?_⟩⟩
          · rw [Int.sign_eq_neg_one_of_neg (by omega)]; decide
          · rw [Int.sign_eq_neg_one_of_neg (by omega)]; decide
          · unfold leftS
            rcases hpick with ⟨k1, k2⟩ | ⟨k1, k2⟩ | ⟨k1, k2⟩
            · exact .inr (.inl ⟨Int.sign_eq_one_of_pos (by omega), by rw [k2]; rfl⟩)
            · exact .inl ⟨Int.sign_eq_neg_one_of_neg (by omega), by rw [k2]⟩
            · refine .inr (.inr ⟨?_, even_sgn k2, ?_⟩)
              · rw [show X - -(c : Int) - (-(a : Int) - X) = 0 by omega]; rfl
              · cases nm
                · exact .inr rfl
                · exact .inl rfl
      · cases h1
end Go.Proofs.YtogjodnmegafdaaGreatFmt
