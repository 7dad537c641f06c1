/- Walks and plain laws of this seat's functions, part 34: S15. -/
import Derived.Test.YtogjodnmegafdaaGreatFmtBesafterJ32
set_option linter.unusedVariables false
set_option linter.unusedSimpArgs false
namespace Go.Proofs.YtogjodnmegafdaaGreatFmtBesafter
open Go.RowKit

/-! ### RoundTurned's plain law -/
theorem sval_uneg {a : Bool} {r : Nat} (hr : r < INFR) : Ieee.double.order (sgnR a r) (uneg (sgnR (!a) r)) = some .eq := by
  rw [sgn_word, sgn_word, neg_word _ hr, order_word (Nat.le_of_lt hr) (Nat.le_of_lt hr)]
  refine congrArg some ?_
  rw [Int.compare_eq_eq]
  unfold sval
  by_cases h : 0 < r
  · rw [decide_eq_true h]; cases a <;> rfl
  · have : r = 0 := by omega
    subst this
    cases a <;> rfl
theorem zero_uneg : Ieee.double.order 0 (uneg 0) = some .eq := sval_uneg (a := false) (r := 0) (by decide)
/-- what stands to what: told of X up, told of -X down -/
theorem rnd_turn {K : Nat} (hK : 1074 < K) (X : Int) : (rndS 1 K X).isSome = (rndS 2 K (-X)).isSome ∧ Ieee.double.order ((rndS 1 K X).getD 0) (uneg ((rndS 2 K (-X)).getD 0)) = some .eq := by
  by_cases h0 : X = 0
  · subst h0
    rw [Int.neg_zero, rndS_zero 1 K hK, rndS_zero 2 K hK]
    exact ⟨rfl, zero_uneg⟩
  · obtain ⟨L, i, n, b, h1⟩ := rndS_brk K hK X
    have b' := b
    rw [← Int.natAbs_neg] at b'
    rw [h1, rndS_of hK b' 2]
    have hs : decide (-X < 0) = !decide (X < 0) := by
      by_cases h : X < 0
      · rw [decide_eq_true h, decide_eq_false (by omega)]; rfl
      · rw [decide_eq_false h, decide_eq_true (by omega)]; rfl
    rw [hs]
    obtain ⟨s, hs'⟩ : ∃ s, decide (X < 0) = s := ⟨_, rfl⟩
    rw [hs']
    have hm : mrD 2 (!s) i n = mrD 1 s i n := by unfold mrD; cases s <;> simp
    rw [hm]
    obtain ⟨m, hm'⟩ : ∃ m, mrD 1 s i n = m := ⟨_, rfl⟩
    rw [hm']
    obtain ⟨r, hr⟩ : ∃ r, L + m.toNat = r := ⟨_, rfl⟩
    rw [hr]
    unfold outR
    by_cases hI : INFR ≤ r
    · rw [if_pos hI, if_pos hI]
      have e : (decide ((2 : Int) = 0) || m || (decide ((2 : Int) = 1) != !s)) = (decide ((1 : Int) = 0) || m || (decide ((1 : Int) = 1) != s)) := by cases m <;> cases s <;> rfl
      rw [e]
      cases hc : (decide ((1 : Int) = 0) || m || (decide ((1 : Int) = 1) != s))
      · exact ⟨rfl, sval_uneg (by decide)⟩
      · exact ⟨rfl, zero_uneg⟩
    · rw [if_neg hI, if_neg hI]
      exact ⟨rfl, sval_uneg (by omega)⟩
theorem pair_uneg {d : Int} {u v : Nat} (hu : u < 18446744073709551616) (hv : v < 18446744073709551616) : pairB d (uneg u) (uneg v) = pairB d u v ∧ pairB d (uneg u) v = pairB d u v := by
  unfold pairB; rw [fin_uneg hu, fin_uneg hv]; exact ⟨rfl, rfl⟩
theorem pair_d {d e : Int} {u v : Nat} (hd : 0 ≤ d ∧ d ≤ 2) (he : 0 ≤ e ∧ e ≤ 2) : pairB d u v = pairB e u v := by
  unfold pairB; rw [decide_eq_true hd, decide_eq_true he]
set_option exponentiation.threshold 3000 in
theorem ask_turn {c : Int} {u v : Nat} (hu : u < 18446744073709551616) (hv : v < 18446744073709551616) (hc : c = 1 ∨ c = 2) : (askS c 1 u v).isSome = (askS c 2 (uneg u) (uneg v)).isSome ∧ Ieee.double.order ((askS c 1 u v).getD 0) (uneg ((askS c 2 (uneg u) (uneg v)).getD 0)) = some .eq := by
  have hp : pairB 1 u v = pairB 2 (uneg u) (uneg v) := by rw [(pair_uneg hu hv).1]; exact pair_d (by decide) (by decide)
  cases h : pairB 1 u v
  · rw [ask_false h, ask_false (hp.symm.trans h)]; exact ⟨rfl, zero_uneg⟩
  · obtain ⟨fu, fv', -, -⟩ := pairB_true h
    rw [ask_true h, ask_true (hp.symm.trans h)]
    have e : exS c (uneg u) (uneg v) = -exS c u v := by
      rcases hc with rfl | rfl
      · rw [exS_1, exS_1, (fv_uneg hu fu).1, (fv_uneg hv fv').1, ← Int.neg_add, Int.neg_mul]
      · rw [exS_2, exS_2, (fv_uneg hu fu).1, (fv_uneg hv fv').1, ← Int.neg_mul]
        refine congrArg (· * ((2 ^ 1074 : Nat) : Int)) ?_
        generalize fv u = x
        generalize fv v = y
        omega
    rw [e]
    exact rnd_turn (by decide) _
theorem ask_turn3 {u v : Nat} (hu : u < 18446744073709551616) (hv : v < 18446744073709551616) : (askS 3 1 u v).isSome = (askS 3 2 (uneg u) v).isSome ∧ Ieee.double.order ((askS 3 1 u v).getD 0) (uneg ((askS 3 2 (uneg u) v).getD 0)) = some .eq := by
  have hp : pairB 1 u v = pairB 2 (uneg u) v := by rw [(pair_uneg hu hv).2]; exact pair_d (by decide) (by decide)
  cases h : pairB 1 u v
  · rw [ask_false h, ask_false (hp.symm.trans h)]; exact ⟨rfl, zero_uneg⟩
  · obtain ⟨fu, fv', -, -⟩ := pairB_true h
    rw [ask_true h, ask_true (hp.symm.trans h)]
    have e : exS 3 (uneg u) v = -exS 3 u v := by rw [exS_3, exS_3, (fv_uneg hu fu).1, Int.neg_mul]
    rw [e]
    exact rnd_turn (by decide) _
theorem ask_comm {c : Int} (d : Int) (u v : Nat) (hc : c = 1 ∨ c = 3) : askS c d u v = askS c d v u := by
  have hp : pairB d u v = pairB d v u := by unfold pairB; rw [Bool.and_comm (fin u)]
  cases h : pairB d u v
  · rw [ask_false h, ask_false (hp.symm.trans h)]
  · rw [ask_true h, ask_true (hp.symm.trans h)]
    rcases hc with rfl | rfl
    · rw [exS_1, exS_1, Int.add_comm]
    · rw [exS_3, exS_3, Int.mul_comm]
theorem uneg_parts {u : Nat} (hu : u < 18446744073709551616) (hf : fin u = true) : uabs (uneg u) = uabs u ∧ fneg (uneg u) = !fneg u := by
  obtain ⟨h1, h2⟩ := word_of hu hf
  obtain ⟨n, hn⟩ : ∃ n, fneg u = n := ⟨_, rfl⟩
  obtain ⟨r, hr⟩ : ∃ r, uabs u = r := ⟨_, rfl⟩
  rw [hn, hr] at h1
  rw [hr] at h2
  rw [hn, hr, h1, neg_word n h2]
  have hi : INFR < 9223372036854775808 := by decide
  exact ⟨word_abs (by omega), word_neg (by omega)⟩
theorem div_turn {d : Int} {u v : Nat} (hu : u < 18446744073709551616) (hv : v < 18446744073709551616) : divS d (uneg u) (uneg v) = divS d u v := by
  have hp := (pair_uneg (d := d) hu hv).1
  cases h : pairB d u v
  · rw [div_false1 h, div_false1 (hp.trans h)]
  · obtain ⟨fu, fv', -, -⟩ := pairB_true h
    obtain ⟨a1, a2⟩ := uneg_parts hu fu
    obtain ⟨b1, b2⟩ := uneg_parts hv fv'
    unfold divS
    rw [hp, a1, a2, b1, b2]
    have e : ((!fneg u) != !fneg v) = (fneg u != fneg v) := by cases fneg u <;> cases fneg v <;> rfl
    rw [e]
/-- a number that is told is finite: it equals itself -/
theorem rnd_self {K : Nat} (hK : 1074 < K) {d X : Int} {x : Nat} (h : rndS d K X = some x) : ∃ a r, x = sgnR a r ∧ r < INFR := by
  obtain ⟨a, r, _, _, h1, _, h2, _, _⟩ := rnd_mono hK (Int.le_refl X) d h h
  exact ⟨a, r, h1, h2⟩
theorem sgn_self {a : Bool} {r : Nat} (hr : r < INFR) : Ieee.double.order (sgnR a r) (sgnR a r) = some .eq := by
  rw [order_sgn hr hr]; exact congrArg some (Int.compare_eq_eq.2 rfl)
theorem ask_eq (c d : Int) (u v : Nat) : Ieee.double.order ((askS c d u v).getD 0) ((askS c d u v).getD 0) = some .eq := by
  cases h : pairB d u v
  · rw [ask_false h]; exact sgn_self (a := false) (r := 0) (by decide)
  · rw [ask_true h]
    cases hx : rndS d 2148 (exS c u v)
    · exact sgn_self (a := false) (r := 0) (by decide)
    · obtain ⟨a, r, rfl, hr⟩ := rnd_self (by decide) hx
      exact sgn_self hr
theorem qS_fin {d : Int} {n : Bool} {A B x : Nat} (hA : A ≠ 0) (hB : B ≠ 0) (h : qS d n A B = some x) : ∃ a r, x = sgnR a r ∧ r < INFR := by
  obtain ⟨L, i, m, _, hq⟩ := qS_brk hA hB d n
  rw [hq] at h
  obtain ⟨h1, h2⟩ := outR_some h
  exact ⟨_, _, h1, h2⟩
theorem div_fin {d : Int} {u v x : Nat} (h : divS d u v = some x) : ∃ a r, x = sgnR a r ∧ r < INFR := by
  cases hp : pairB d u v
  · rw [div_false1 hp] at h; cases h
  · by_cases h0 : uabs v = 0
    · rw [div_false2 h0] at h; cases h
    · rw [div_true hp h0] at h
      by_cases hu0 : uabs u = 0
      · rw [if_pos hu0] at h
        obtain rfl := Option.some.inj h
        exact ⟨false, 0, rfl, by decide⟩
      · rw [if_neg hu0] at h
        exact qS_fin (rv_ne hu0) (rv_ne h0) h
theorem div_eq (d : Int) (u v : Nat) : Ieee.double.order ((divS d u v).getD 0) ((divS d u v).getD 0) = some .eq := by
  cases h : divS d u v
  · exact sgn_self (a := false) (r := 0) (by decide)
  · obtain ⟨a, r, rfl, hr⟩ := div_fin h
    exact sgn_self hr
theorem fv_noughts : fv 0 = 0 ∧ fv 9223372036854775808 = 0 ∧ fin 0 = true ∧ fin 9223372036854775808 = true := by
  have h1 := fv_word (neg := false) (r := 0) (by decide)
  have h2 := fv_word (neg := true) (r := 0) (by decide)
  rw [rv_zero] at h1 h2
  exact ⟨h1, h2, by decide, by decide⟩
theorem ask_nought (d : Int) (u : Nat) : askS 1 d u 9223372036854775808 = askS 1 d u 0 := by
  obtain ⟨h1, h2, h3, h4⟩ := fv_noughts
  have hp : pairB d u 9223372036854775808 = pairB d u 0 := by unfold pairB; rw [h3, h4]
  cases h : pairB d u 0
  · rw [ask_false h, ask_false (hp.trans h)]
  · rw [ask_true h, ask_true (hp.trans h), exS_1, exS_1, h1, h2]
theorem ask_itself {d : Int} {u x : Nat} (hu : u < 18446744073709551616) (h : askS 1 d u 0 = some x) : Ieee.double.order x u = some .eq := by
  cases hp : pairB d u 0
  · rw [ask_false hp] at h; cases h
  · obtain ⟨fu, -, -, -⟩ := pairB_true hp
    rw [ask_true hp, exS_1, fv_noughts.1, Int.add_zero] at h
    obtain ⟨h1, h2⟩ := word_of hu fu
    obtain ⟨n, hn⟩ : ∃ n, fneg u = n := ⟨_, rfl⟩
    obtain ⟨r, hr⟩ : ∃ r, uabs u = r := ⟨_, rfl⟩
    rw [hn, hr] at h1
    rw [hr] at h2
    rw [h1, fv_word h2] at h
    have h3 := rndS_word (K := 2148) (by decide) d n h2
    rw [show 2148 - 1074 = 1074 from rfl] at h3
    rw [h3] at h
    obtain rfl := Option.some.inj h
    rw [h1, sgn_word, order_word (Nat.le_of_lt h2) (Nat.le_of_lt h2), sval_sgn]
    exact congrArg some (Int.compare_eq_eq.2 rfl)
end Go.Proofs.YtogjodnmegafdaaGreatFmtBesafter
