/- Walks and plain laws of this seat's functions, part 34: S15 S16 S17. -/
import Derived.Test.YtikdhkmcdmnadaaGreatFmtJ32
set_option linter.unusedVariables false
set_option linter.unusedSimpArgs false
namespace Go.Proofs.YtikdhkmcdmnadaaGreatFmt
open Go.RowKit

/-! ### RoundTurned's plain law -/
theorem sval_uneg {a : Bool} {r : Nat} (hr : r < INFR) : Ieee.double.order (sgnR a r) (uneg (sgnR (!a) r)) = some .eq := by
  rw [sgn_word, sgn_word, neg_word _ hr, order_word (Nat.le_of_lt hr) (Nat.le_of_lt hr)]
  refine congrArg some ?_
  rw [Int.compare_eq_eq]
  unfold sval
  by_cases h : 0 < r
  · rw [decide_eq_true h]; cases a <;> rfl
  · have : r = 0 := by omega
    subst this
    cases a <;> rfl
theorem zero_uneg : Ieee.double.order 0 (uneg 0) = some .eq := sval_uneg (a := false) (r := 0) (by decide)
/-- what stands to what: told of X up, told of -X down -/
theorem rnd_turn {K : Nat} (hK : 1074 < K) (X : Int) : (rndS 1 K X).isSome = (rndS 2 K (-X)).isSome ∧ Ieee.double.order ((rndS 1 K X).getD 0) (uneg ((rndS 2 K (-X)).getD 0)) = some .eq := by
  by_cases h0 : X = 0
  · subst h0
    rw [Int.neg_zero, rndS_zero 1 K hK, rndS_zero 2 K hK]
    exact ⟨rfl, zero_uneg⟩
  · obtain ⟨L, i, n, b, h1⟩ := rndS_brk K hK X
    have b' := b
    rw [← Int.natAbs_neg] at b'
    rw [h1, rndS_of hK b' 2]
    have hs : decide (-X < 0) = !decide (X < 0) := by
      by_cases h : X < 0
      · rw [decide_eq_true h, decide_eq_false (by omega)]; rfl
      · rw [decide_eq_false h, decide_eq_true (by omega)]; rfl
    rw [hs]
    obtain ⟨s, hs'⟩ : ∃ s, decide (X < 0) = s := ⟨_, rfl⟩
    rw [hs']
    have hm : mrD 2 (!s) i n = mrD 1 s i n := by unfold mrD; cases s <;> simp
    rw [hm]
    obtain ⟨m, hm'⟩ : ∃ m, mrD 1 s i n = m := ⟨_, rfl⟩
    rw [hm']
    obtain ⟨r, hr⟩ : ∃ r, L + m.toNat = r := ⟨_, rfl⟩
    rw [hr]
    unfold outR
    by_cases hI : INFR ≤ r
    · rw [if_pos hI, if_pos hI]
      have e : (decide ((2 : Int) = 0) || m || (decide ((2 : Int) = 1) != !s)) = (decide ((1 : Int) = 0) || m || (decide ((1 : Int) = 1) != s)) := by cases m <;> cases s <;> rfl
      rw [e]
      cases hc : (decide ((1 : Int) = 0) || m || (decide ((1 : Int) = 1) != s))
      · exact ⟨rfl, sval_uneg (by decide)⟩
      · exact ⟨rfl, zero_uneg⟩
    · rw [if_neg hI, if_neg hI]
      exact ⟨rfl, sval_uneg (by omega)⟩
theorem pair_uneg {d : Int} {u v : Nat} (hu : u < 18446744073709551616) (hv : v < 18446744073709551616) : pairB d (uneg u) (uneg v) = pairB d u v ∧ pairB d (uneg u) v = pairB d u v := by
  unfold pairB; rw [fin_uneg hu, fin_uneg hv]; exact ⟨rfl, rfl⟩
theorem pair_d {d e : Int} {u v : Nat} (hd : 0 ≤ d ∧ d ≤ 2) (he : 0 ≤ e ∧ e ≤ 2) : pairB d u v = pairB e u v := by
  unfold pairB; rw [decide_eq_true hd, decide_eq_true he]
set_option exponentiation.threshold 3000 in
theorem ask_turn {c : Int} {u v : Nat} (hu : u < 18446744073709551616) (hv : v < 18446744073709551616) (hc : c = 1 ∨ c = 2) : (askS c 1 u v).isSome = (askS c 2 (uneg u) (uneg v)).isSome ∧ Ieee.double.order ((askS c 1 u v).getD 0) (uneg ((askS c 2 (uneg u) (uneg v)).getD 0)) = some .eq := by
  have hp : pairB 1 u v = pairB 2 (uneg u) (uneg v) := by rw [(pair_uneg hu hv).1]; exact pair_d (by decide) (by decide)
  cases h : pairB 1 u v
  · rw [ask_false h, ask_false (hp.symm.trans h)]; exact ⟨rfl, zero_uneg⟩
  · obtain ⟨fu, fv', -, -⟩ := pairB_true h
    rw [ask_true h, ask_true (hp.symm.trans h)]
    have e : exS c (uneg u) (uneg v) = -exS c u v := by
      rcases hc with rfl | rfl
      · rw [exS_1, exS_1, (fv_uneg hu fu).1, (fv_uneg hv fv').1, ← Int.neg_add, Int.neg_mul]
      · rw [exS_2, exS_2, (fv_uneg hu fu).1, (fv_uneg hv fv').1, ← Int.neg_mul]
        refine congrArg (· * ((2 ^ 1074 : Nat) : Int)) ?_
        generalize fv u = x
        generalize fv v = y
        omega
    rw [e]
    exact rnd_turn (by decide) _
theorem ask_turn3 {u v : Nat} (hu : u < 18446744073709551616) (hv : v < 18446744073709551616) : (askS 3 1 u v).isSome = (askS 3 2 (uneg u) v).isSome ∧ Ieee.double.order ((askS 3 1 u v).getD 0) (uneg ((askS 3 2 (uneg u) v).getD 0)) = some .eq := by
  have hp : pairB 1 u v = pairB 2 (uneg u) v := by rw [(pair_uneg hu hv).2]; exact pair_d (by decide) (by decide)
  cases h : pairB 1 u v
  · rw [ask_false h, ask_false (hp.symm.trans h)]; exact ⟨rfl, zero_uneg⟩
  · obtain ⟨fu, fv', -, -⟩ := pairB_true h
    rw [ask_true h, ask_true (hp.symm.trans h)]
    have e : exS 3 (uneg u) v = -exS 3 u v := by rw [exS_3, exS_3, (fv_uneg hu fu).1, Int.neg_mul]
    rw [e]
    exact rnd_turn (by decide) _
theorem ask_comm {c : Int} (d : Int) (u v : Nat) (hc : c = 1 ∨ c = 3) : askS c d u v = askS c d v u := by
  have hp : pairB d u v = pairB d v u := by unfold pairB; rw [Bool.and_comm (fin u)]
  cases h : pairB d u v
  · rw [ask_false h, ask_false (hp.symm.trans h)]
  · rw [ask_true h, ask_true (hp.symm.trans h)]
    rcases hc with rfl | rfl
    · rw [exS_1, exS_1, Int.add_comm]
    · rw [exS_3, exS_3, Int.mul_comm]
theorem uneg_parts {u : Nat} (hu : u < 18446744073709551616) (hf : fin u = true) : uabs (uneg u) = uabs u ∧ fneg (uneg u) = !fneg u := by
  obtain ⟨h1, h2⟩ := word_of hu hf
  obtain ⟨n, hn⟩ : ∃ n, fneg u = n := ⟨_, rfl⟩
  obtain ⟨r, hr⟩ : ∃ r, uabs u = r := ⟨_, rfl⟩
  rw [hn, hr] at h1
  rw [hr] at h2
  rw [hn, hr, h1, neg_word n h2]
  have hi : INFR < 9223372036854775808 := by decide
  exact ⟨word_abs (by omega), word_neg (by omega)⟩
theorem div_turn {d : Int} {u v : Nat} (hu : u < 18446744073709551616) (hv : v < 18446744073709551616) : divS d (uneg u) (uneg v) = divS d u v := by
  have hp := (pair_uneg (d := d) hu hv).1
  cases h : pairB d u v
  · rw [div_false1 h, div_false1 (hp.trans h)]
  · obtain ⟨fu, fv', -, -⟩ := pairB_true h
    obtain ⟨a1, a2⟩ := uneg_parts hu fu
    obtain ⟨b1, b2⟩ := uneg_parts hv fv'
    unfold divS
    rw [hp, a1, a2, b1, b2]
    have e : ((!fneg u) != !fneg v) = (fneg u != fneg v) := by cases fneg u <;> cases fneg v <;> rfl
    rw [e]
/-- a number that is told is finite: it equals itself -/
theorem rnd_self {K : Nat} (hK : 1074 < K) {d X : Int} {x : Nat} (h : rndS d K X = some x) : ∃ a r, x = sgnR a r ∧ r < INFR := by
  obtain ⟨a, r, _, _, h1, _, h2, _, _⟩ := rnd_mono hK (Int.le_refl X) d h h
  exact ⟨a, r, h1, h2⟩
theorem sgn_self {a : Bool} {r : Nat} (hr : r < INFR) : Ieee.double.order (sgnR a r) (sgnR a r) = some .eq := by
  rw [order_sgn hr hr]; exact congrArg some (Int.compare_eq_eq.2 rfl)
theorem ask_eq (c d : Int) (u v : Nat) : Ieee.double.order ((askS c d u v).getD 0) ((askS c d u v).getD 0) = some .eq := by
  cases h : pairB d u v
  · rw [ask_false h]; exact sgn_self (a := false) (r := 0) (by decide)
  · rw [ask_true h]
    cases hx : rndS d 2148 (exS c u v)
    · exact sgn_self (a := false) (r := 0) (by decide)
    · obtain ⟨a, r, rfl, hr⟩ := rnd_self (by decide) hx
      exact sgn_self hr
theorem qS_fin {d : Int} {n : Bool} {A B x : Nat} (hA : A ≠ 0) (hB : B ≠ 0) (h : qS d n A B = some x) : ∃ a r, x = sgnR a r ∧ r < INFR := by
  obtain ⟨L, i, m, _, hq⟩ := qS_brk hA hB d n
  rw [hq] at h
  obtain ⟨h1, h2⟩ := outR_some h
  exact ⟨_, _, h1, h2⟩
theorem div_fin {d : Int} {u v x : Nat} (h : divS d u v = some x) : ∃ a r, x = sgnR a r ∧ r < INFR := by
  cases hp : pairB d u v
  · rw [div_false1 hp] at h; cases h
  · by_cases h0 : uabs v = 0
    · rw [div_false2 h0] at h; cases h
    · rw [div_true hp h0] at h
      by_cases hu0 : uabs u = 0
      · rw [if_pos hu0] at h
        obtain rfl := Option.some.inj h
        exact ⟨false, 0, rfl, by decide⟩
      · rw [if_neg hu0] at h
        exact qS_fin (rv_ne hu0) (rv_ne h0) h
theorem div_eq (d : Int) (u v : Nat) : Ieee.double.order ((divS d u v).getD 0) ((divS d u v).getD 0) = some .eq := by
  cases h : divS d u v
  · exact sgn_self (a := false) (r := 0) (by decide)
  · obtain ⟨a, r, rfl, hr⟩ := div_fin h
    exact sgn_self hr
theorem fv_noughts : fv 0 = 0 ∧ fv 9223372036854775808 = 0 ∧ fin 0 = true ∧ fin 9223372036854775808 = true := by
  have h1 := fv_word (neg := false) (r := 0) (by decide)
  have h2 := fv_word (neg := true) (r := 0) (by decide)
  rw [rv_zero] at h1 h2
  exact ⟨h1, h2, by decide, by decide⟩
theorem ask_nought (d : Int) (u : Nat) : askS 1 d u 9223372036854775808 = askS 1 d u 0 := by
  obtain ⟨h1, h2, h3, h4⟩ := fv_noughts
  have hp : pairB d u 9223372036854775808 = pairB d u 0 := by unfold pairB; rw [h3, h4]
  cases h : pairB d u 0
  · rw [ask_false h, ask_false (hp.trans h)]
  · rw [ask_true h, ask_true (hp.trans h), exS_1, exS_1, h1, h2]
theorem ask_itself {d : Int} {u x : Nat} (hu : u < 18446744073709551616) (h : askS 1 d u 0 = some x) : Ieee.double.order x u = some .eq := by
  cases hp : pairB d u 0
  · rw [ask_false hp] at h; cases h
  · obtain ⟨fu, -, -, -⟩ := pairB_true hp
    rw [ask_true hp, exS_1, fv_noughts.1, Int.add_zero] at h
    obtain ⟨h1, h2⟩ := word_of hu fu
    obtain ⟨n, hn⟩ : ∃ n, fneg u = n := ⟨_, rfl⟩
    obtain ⟨r, hr⟩ : ∃ r, uabs u = r := ⟨_, rfl⟩
    rw [hn, hr] at h1
    rw [hr] at h2
    rw [h1, fv_word h2] at h
    have h3 := rndS_word (K := 2148) (by decide) d n h2
    rw [show 2148 - 1074 = 1074 from rfl] at h3
    rw [h3] at h
    obtain rfl := Option.some.inj h
    rw [h1, sgn_word, order_word (Nat.le_of_lt h2) (Nat.le_of_lt h2), sval_sgn]
    exact congrArg some (Int.compare_eq_eq.2 rfl)
end Go.Proofs.YtikdhkmcdmnadaaGreatFmt

namespace Go.Proofs.YtikdhkmcdmnadaaGreatFmt
open Go.RowKit

/-! ### the number beside a number; RoundShares' plain law -/
/-- what round.Next tells -/
def nextS (d : Int) (u : Nat) : Option Nat := if pairB d u 0 then (if d = 1 then sideS 0 (upR (fneg u) (uabs u)).1 (upR (fneg u) (uabs u)).2 0 else if d = 2 then sideS 0 (downR (fneg u) (uabs u)).1 (downR (fneg u) (uabs u)).2 0 else some (sgnR (fneg u) (uabs u))) else none
theorem inf_small {r : Nat} (h : r < INFR) : r < 9223372036854775808 := Nat.lt_trans h (by decide)
theorem sgn_lt {n : Bool} {r : Nat} (h : r < INFR) : sgnR n r < 18446744073709551616 := by rw [sgn_word]; exact word_lt (inf_small h)
theorem sgn_fin {n : Bool} {r : Nat} (h : r < INFR) : fin (sgnR n r) = true := by rw [sgn_word]; exact word_fin h
theorem sgn_abs {n : Bool} {r : Nat} (h : r < INFR) : uabs (sgnR n r) = r := by rw [sgn_word]; exact word_abs (inf_small h)
theorem sgn_neg {n : Bool} {r : Nat} (h : r < INFR) : fneg (sgnR n r) = (n && decide (0 < r)) := by rw [sgn_word]; exact word_neg (inf_small h)
theorem sgn_fv {n : Bool} {r : Nat} (h : r < INFR) : fv (sgnR n r) = sg n (rv r) := by
  rw [sgn_word, fv_word h]
  by_cases h0 : 0 < r
  · rw [decide_eq_true h0, Bool.and_true]
  · have : r = 0 := by omega
    subst this
    rw [rv_zero]; cases n <;> rfl
theorem pair_zero {d : Int} {u : Nat} (hf : fin u = true) (hd : 0 ≤ d ∧ d ≤ 2) : pairB d u 0 = true := by
  unfold pairB; rw [hf, fv_noughts.2.2.1, decide_eq_true hd]; rfl
theorem side0 (n : Bool) (q : Nat) : sideS 0 n q 0 = if INFR ≤ q then none else some (sgnR n q) := by unfold sideS; simp
theorem next_of_pos {L : Nat} (h : L + 1 < INFR) : nextS 1 (sgnR false L) = some (sgnR false (L + 1)) := by
  have h' : L < INFR := by omega
  unfold nextS
  rw [pair_zero (sgn_fin h') (by decide), if_pos rfl, if_pos rfl, sgn_neg h', sgn_abs h', side0]
  have e : upR (false && decide (0 < L)) L = (false, L + 1) := by
    unfold upR; simp; omega
  rw [e]
  exact if_neg (by show ¬ INFR ≤ L + 1; omega)
theorem next_of_neg {L : Nat} (h : L + 1 < INFR) : nextS 1 (sgnR true (L + 1)) = some (sgnR true L) := by
  unfold nextS
  rw [pair_zero (sgn_fin h) (by decide), if_pos rfl, if_pos rfl, sgn_neg h, sgn_abs h, side0]
  have e : upR (true && decide (0 < L + 1)) (L + 1) = (true, L) := by
    unfold upR; simp
  rw [e]
  exact if_neg (by show ¬ INFR ≤ L; omega)
/-- what Down, Up and Near tell of the real with these rungs on both sides (n: it is below 0) -/
structure Three (n : Bool) (L : Nat) (inx nm : Bool) (lo hi m : Option Nat) : Prop where
  lo : lo = outR 2 n (mrD 2 n inx nm) (L + (mrD 2 n inx nm).toNat)
  hi : hi = outR 1 n (mrD 1 n inx nm) (L + (mrD 1 n inx nm).toNat)
  m : m = outR 0 n (mrD 0 n inx nm) (L + (mrD 0 n inx nm).toNat)
/-- in the order of the line: what is told below and above -/
theorem three_cases {n : Bool} {L : Nat} {inx nm : Bool} {lo hi m : Option Nat} (h : Three n L inx nm lo hi m) (hn : inx = false → nm = false) :
    (n = false ∧ lo = some (sgnR false (min L MAXB)) ∧ hi = (if L + inx.toNat < INFR then some (sgnR false (L + inx.toNat)) else none)) ∨
    (n = true ∧ hi = some (sgnR true (min L MAXB)) ∧ lo = (if L + inx.toNat < INFR then some (sgnR true (L + inx.toNat)) else none)) := by
  have ib : INFR = 9218868437227405312 := rfl
  have mb : MAXB = 9218868437227405311 := rfl
  obtain ⟨h1, h2, -⟩ := h
  cases n
  · left
    have m2 : mrD 2 false inx nm = false := by unfold mrD; simp
    have m1 : mrD 1 false inx nm = inx := by unfold mrD; simp
    rw [m2] at h1
    rw [m1] at h2
    refine ⟨rfl, ?_, ?_⟩
    · rw [h1]
      rcases Nat.lt_or_ge L INFR with hL | hL
      · rw [Bool.toNat_false, Nat.add_zero, outR_fin hL, Nat.min_eq_left (by omega)]
      · rw [Bool.toNat_false, Nat.add_zero, outR_max hL (by rfl), Nat.min_eq_right (by omega)]
    · rw [h2]
      by_cases hL : L + inx.toNat < INFR
      · rw [if_pos hL, outR_fin hL]
      · rw [if_neg hL, outR_none (by omega) (by cases inx <;> rfl)]
  · right
    have m2 : mrD 1 true inx nm = false := by unfold mrD; simp
    have m1 : mrD 2 true inx nm = inx := by unfold mrD; simp
    rw [m2] at h2
    rw [m1] at h1
    refine ⟨rfl, ?_, ?_⟩
    · rw [h2]
      rcases Nat.lt_or_ge L INFR with hL | hL
      · rw [Bool.toNat_false, Nat.add_zero, outR_fin hL, Nat.min_eq_left (by omega)]
      · rw [Bool.toNat_false, Nat.add_zero, outR_max hL (by rfl), Nat.min_eq_right (by omega)]
    · rw [h1]
      by_cases hL : L + inx.toNat < INFR
      · rw [if_pos hL, outR_fin hL]
      · rw [if_neg hL, outR_none (by omega) (by cases inx <;> rfl)]
/-- the nearest one is one of them -/
theorem three_near {n : Bool} {L : Nat} {inx nm : Bool} {lo hi m : Option Nat} (h : Three n L inx nm lo hi m) (hn : inx = false → nm = false) (hL : L + inx.toNat < INFR) : m = some (sgnR n L) ∨ (inx = true ∧ m = some (sgnR n (L + 1))) := by
  have m0 : mrD 0 n inx nm = nm := by unfold mrD; simp
  have h3 := h.m
  rw [m0] at h3
  cases nm
  · left; rw [h3, Bool.toNat_false, Nat.add_zero, outR_fin (by omega)]
  · cases inx
    · exact absurd (hn rfl) (by decide)
    · right; refine ⟨rfl, ?_⟩
      rw [h3]
      exact outR_fin (by exact hL)
theorem brk_ix {N D L : Nat} {inx nm : Bool} (b : Brk N D L inx nm) : (inx = false → nm = false ∧ rv L * D = N) ∧ (inx = true → rv L * D < N) := by
  refine ⟨fun h => brk_exact_nm b h, fun h => ?_⟩
  have h1 := b.ix
  rw [h] at h1
  have h2 : rv L * D ≠ N := by simpa using h1.symm
  have := b.lo
  omega
/-- Down's number times the denominator is not beyond, Up's not ahead of it -/
theorem brk_sides {N D L : Nat} {inx nm : Bool} (b : Brk N D L inx nm) : rv (min L MAXB) * D ≤ N ∧ N ≤ rv (L + inx.toNat) * D := by
  constructor
  · exact Nat.le_trans (Nat.mul_le_mul_right _ (rv_le (Nat.min_le_left _ _))) b.lo
  · cases inx
    · have := ((brk_ix b).1 rfl).2
      rw [Bool.toNat_false, Nat.add_zero]; omega
    · exact Nat.le_of_lt b.hi
theorem sign_share (a b : Bool) {A B P R : Nat} (hB : 0 < B) :
    Int.sign (sg b B) * Int.sign (sg (a != b) R * sg b B - sg a A * (P : Int)) = if (a != b) then Int.sign (((A * P : Nat) : Int) - ((R * B : Nat) : Int)) else Int.sign (((R * B : Nat) : Int) - ((A * P : Nat) : Int)) := by
  have h1 : Int.sign (B : Int) = 1 := Int.sign_eq_one_of_pos (by omega)
  have h2 : Int.sign (-(B : Int)) = -1 := Int.sign_eq_neg_one_of_neg (by omega)
  rw [Int.natCast_mul, Int.natCast_mul]
  cases a <;> cases b <;> simp only [sg, Bool.false_eq_true, if_false, if_true, bne_self_eq_false, Bool.bne_true, Bool.bne_false, Bool.not_false, Bool.not_true, h1, h2, Int.one_mul, Int.neg_mul, Int.mul_neg, Int.neg_neg, ← Int.sign_neg] <;> refine congrArg Int.sign ?_ <;> generalize (A : Int) * (P : Int) = x <;> generalize (R : Int) * (B : Int) = y <;> omega
theorem sign_le {x y : Nat} (h : x ≤ y) : Int.sign ((x : Int) - (y : Int)) ≤ 0 ∧ 0 ≤ Int.sign ((y : Int) - (x : Int)) := by
  rcases Nat.lt_or_eq_of_le h with h | h
  · rw [Int.sign_eq_neg_one_of_neg (by omega), Int.sign_eq_one_of_pos (by omega)]; decide
  · subst h; rw [Int.sub_self]; decide
theorem sign_lt {x y : Nat} (h : x < y) : Int.sign ((x : Int) - (y : Int)) = -1 ∧ Int.sign ((y : Int) - (x : Int)) = 1 :=
  ⟨Int.sign_eq_neg_one_of_neg (by omega), Int.sign_eq_one_of_pos (by omega)⟩
/-- a quotient's share: how the number p, times v, stands to u -/
def shareS (p u v : Nat) : Int := Int.sign (fv p * fv v - fv u * ((2 ^ 1074 : Nat) : Int))
theorem div_three {u v : Nat} (hu0 : uabs u ≠ 0) (hv0 : uabs v ≠ 0) (hp : pairB 0 u v = true) :
    ∃ L inx nm, Brk (rv (uabs u) * 2 ^ 1074) (rv (uabs v)) L inx nm ∧ Three (fneg u != fneg v) L inx nm (divS 2 u v) (divS 1 u v) (divS 0 u v) := by
  obtain ⟨L, inx, nm, b, hq⟩ := qS_brk (rv_ne hu0) (rv_ne hv0) 0 false
  have h1 : pairB 1 u v = true := (pair_d (by decide) (by decide)).trans hp
  have h2 : pairB 2 u v = true := (pair_d (by decide) (by decide)).trans hp
  refine ⟨L, inx, nm, b, ?_, ?_, ?_⟩
  · rw [div_true h2 hv0, if_neg hu0, hq]
  · rw [div_true h1 hv0, if_neg hu0, hq]
  · rw [div_true hp hv0, if_neg hu0, hq]
end Go.Proofs.YtikdhkmcdmnadaaGreatFmt

namespace Go.Proofs.YtikdhkmcdmnadaaGreatFmt
open Go.RowKit

/-! ### RoundShares' plain law -/
theorem fv_zero_iff {u : Nat} (hu : u < 18446744073709551616) (hf : fin u = true) : fv u = sg (fneg u) (rv (uabs u)) := by
  obtain ⟨h1, h2⟩ := word_of hu hf
  have := fv_word (neg := fneg u) h2
  rwa [← h1] at this
theorem sign_sgv (b : Bool) {B : Nat} (h : 0 < B) : Int.sign (sg b B) = if b then -1 else 1 := by
  cases b
  · exact Int.sign_eq_one_of_pos (by simp only [sg, Bool.false_eq_true, if_false]; omega)
  · exact Int.sign_eq_neg_one_of_neg (by simp only [sg, if_true]; omega)
theorem ne_of_sign {s c : Int} (h : s * c ≠ 0) : c ≠ 0 := by rintro rfl; exact h (Int.mul_zero s)
theorem sgn_ne {n : Bool} {L : Nat} (h : L + 1 < INFR) : Ieee.double.order (sgnR n L) (sgnR n (L + 1)) ≠ some .eq ∧ Ieee.double.order (sgnR n (L + 1)) (sgnR n L) ≠ some .eq := by
  have h' : L < INFR := by omega
  rw [order_sgn h' h, order_sgn h h']
  constructor <;> intro e <;> have e' := Int.compare_eq_eq.1 (Option.some.inj e) <;> cases n <;> simp only [sval, Bool.false_eq_true, if_false, if_true] at e' <;> omega
structure Shares (u v : Nat) (lo hi m : Option Nat) : Prop where
  lw : ∀ p, lo = some p → p < 18446744073709551616 ∧ fin p = true ∧ Int.sign (fv v) * shareS p u v ≤ 0
  hw : ∀ q, hi = some q → q < 18446744073709551616 ∧ fin q = true ∧ 0 ≤ Int.sign (fv v) * shareS q u v
  any : lo.isSome = true ∨ hi.isSome = true
  both : ∀ p q, lo = some p → hi = some q → Ieee.double.order p q = some .eq ∨ (Ieee.double.order p q ≠ some .eq ∧ nextS 1 p = some q ∧ (m = some p ∨ m = some q) ∧ shareS p u v ≠ 0 ∧ shareS q u v ≠ 0)
set_option exponentiation.threshold 3000 in
theorem share_law {u v : Nat} (hu : u < 18446744073709551616) (hv : v < 18446744073709551616) (fu : fin u = true) (fv' : fin v = true) (hv0 : uabs v ≠ 0) : Shares u v (divS 2 u v) (divS 1 u v) (divS 0 u v) := by
  have hp : pairB 0 u v = true := by unfold pairB; rw [fu, fv']; rfl
  have eu := fv_zero_iff hu fu
  have ev := fv_zero_iff hv fv'
  by_cases hu0 : uabs u = 0
  · have h : ∀ d, 0 ≤ d ∧ d ≤ 2 → divS d u v = some 0 := fun d hd => by
      rw [div_true ((pair_d hd (by decide)).trans hp) hv0, if_pos hu0]
    rw [h 0 (by decide), h 1 (by decide), h 2 (by decide)]
    have hs : shareS 0 u v = 0 := by
      unfold shareS
      rw [eu, hu0, rv_zero, fv_noughts.1]
      have : sg (fneg u) 0 = 0 := by cases fneg u <;> rfl
      rw [this, Int.zero_mul, Int.zero_mul]; rfl
    refine ⟨?_, ?_, .inl rfl, ?_⟩
    · rintro p h
      obtain rfl := Option.some.inj h
      exact ⟨by decide, by decide, by rw [hs, Int.mul_zero]; decide⟩
    · rintro p h
      obtain rfl := Option.some.inj h
      exact ⟨by decide, by decide, by rw [hs, Int.mul_zero]; decide⟩
    · rintro p q h1 h2
      obtain rfl := Option.some.inj h1
      obtain rfl := Option.some.inj h2
      exact .inl (sgn_self (a := false) (r := 0) (by decide))
  · obtain ⟨L, inx, nm, b, h3⟩ := div_three hu0 hv0 hp
    obtain ⟨hx1, hx2⟩ := brk_ix b
    have hn : inx = false → nm = false := fun h => (hx1 h).1
    obtain ⟨s1, s2⟩ := brk_sides b
    have hB := rv_pos hv0
    have hsh : ∀ {R : Nat} (h : R < INFR), Int.sign (fv v) * shareS (sgnR (fneg u != fneg v) R) u v = if (fneg u != fneg v) then Int.sign (((rv (uabs u) * 2 ^ 1074 : Nat) : Int) - ((rv R * rv (uabs v) : Nat) : Int)) else Int.sign (((rv R * rv (uabs v) : Nat) : Int) - ((rv (uabs u) * 2 ^ 1074 : Nat) : Int)) := by
      intro R h
      unfold shareS
      rw [sgn_fv h, eu, ev]
      exact sign_share _ _ hB
    have hmax : MAXB < INFR := by decide
    have hmin : min L MAXB < INFR := Nat.lt_of_le_of_lt (Nat.min_le_right _ _) hmax
    have hlt := b.hi
    obtain ⟨P, hP⟩ : ∃ P, rv (uabs u) * 2 ^ 1074 = P := ⟨_, rfl⟩
    rw [hP] at s1 s2 hx1 hx2 hlt hsh
    clear hP b eu ev
    rcases three_cases h3 hn with ⟨e, hlo, hhi⟩ | ⟨e, hhi, hlo⟩
    · rw [e] at hsh h3
      simp only [Bool.false_eq_true, if_false] at hsh
      refine ⟨?_, ?_, .inl (by rw [hlo]; rfl), ?_⟩
      · rintro p h
        rw [hlo] at h
        obtain rfl := Option.some.inj h
        exact ⟨sgn_lt hmin, sgn_fin hmin, by rw [hsh hmin]; exact (sign_le s1).1⟩
      · rintro q h
        rw [hhi] at h
        split at h
        · next hL =>
          obtain rfl := Option.some.inj h
          exact ⟨sgn_lt hL, sgn_fin hL, by rw [hsh hL]; exact (sign_le s2).2⟩
        · cases h
      · rintro p q h1 h2
        rw [hlo] at h1
        rw [hhi] at h2
        split at h2
        · next hL =>
          have hLi : min L MAXB = L := Nat.min_eq_left (by show L ≤ 9218868437227405311; have : L + inx.toNat < 9218868437227405312 := hL; omega)
          rw [hLi] at h1 hmin
          obtain rfl := Option.some.inj h1
          obtain rfl := Option.some.inj h2
          cases inx
          · left; exact sgn_self hmin
          · right
            have hm := three_near h3 hn hL
            refine ⟨(sgn_ne hL).1, next_of_pos hL, ?_, ?_, ?_⟩
            · rcases hm with h | ⟨-, h⟩
              · exact .inl h
              · exact .inr h
            · refine ne_of_sign (s := Int.sign (fv v)) ?_
              rw [hsh hmin, (sign_lt (hx2 rfl)).1]; decide
            · refine ne_of_sign (s := Int.sign (fv v)) ?_
              rw [hsh hL]
              show Int.sign (((rv (L + 1) * rv (uabs v) : Nat) : Int) - (P : Int)) ≠ 0
              rw [(sign_lt hlt).2]; decide
        · cases h2
    · rw [e] at hsh h3
      simp only [if_true] at hsh
      refine ⟨?_, ?_, .inr (by rw [hhi]; rfl), ?_⟩
      · rintro q h
        rw [hlo] at h
        split at h
        · next hL =>
          obtain rfl := Option.some.inj h
          exact ⟨sgn_lt hL, sgn_fin hL, by rw [hsh hL]; exact (sign_le s2).1⟩
        · cases h
      · rintro p h
        rw [hhi] at h
        obtain rfl := Option.some.inj h
        exact ⟨sgn_lt hmin, sgn_fin hmin, by rw [hsh hmin]; exact (sign_le s1).2⟩
      · rintro p q h1 h2
        rw [hlo] at h1
        rw [hhi] at h2
        split at h1
        · next hL =>
          have hLi : min L MAXB = L := Nat.min_eq_left (by show L ≤ 9218868437227405311; have : L + inx.toNat < 9218868437227405312 := hL; omega)
          rw [hLi] at h2 hmin
          obtain rfl := Option.some.inj h1
          obtain rfl := Option.some.inj h2
          cases inx
          · left; exact sgn_self hmin
          · right
            have hm := three_near h3 hn hL
            refine ⟨(sgn_ne hL).2, next_of_neg hL, ?_, ?_, ?_⟩
            · rcases hm with h | ⟨-, h⟩
              · exact .inr h
              · exact .inl h
            · refine ne_of_sign (s := Int.sign (fv v)) ?_
              rw [hsh hL]
              show Int.sign ((P : Int) - ((rv (L + 1) * rv (uabs v) : Nat) : Int)) ≠ 0
              rw [(sign_lt hlt).1]; decide
            · refine ne_of_sign (s := Int.sign (fv v)) ?_
              rw [hsh hmin, (sign_lt (hx2 rfl)).2]; decide
        · cases h1
end Go.Proofs.YtikdhkmcdmnadaaGreatFmt
