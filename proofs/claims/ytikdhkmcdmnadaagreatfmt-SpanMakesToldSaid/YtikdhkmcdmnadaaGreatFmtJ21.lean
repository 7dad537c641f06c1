/- Walks and plain laws of this seat's functions, part 21: G1 G3 G4. -/
import Derived.Test.YtikdhkmcdmnadaaGreatFmtJ13
import Derived.Test.YtikdhkmcdmnadaaGreatFmtJ15
import Derived.Test.YtikdhkmcdmnadaaGreatFmtJ20
set_option linter.unusedVariables false
set_option linter.unusedSimpArgs false
namespace Go.Proofs.YtikdhkmcdmnadaaGreatFmt
open Go.RowKit

/-! ### small functions of math, math/big and round -/
theorem makeacc_calls (b : Bool) (w : World) : Calls Tryz.prog 63 #[.bool b] w fun e w' => e = .returned (.int .i8 (if b then 1 else -1)) ∧ w = w' := by
  cases b
  all_goals (
    go_enter Tryz.func63, Tryz.ntmps63
    go_wp2
    go_ret
    exact ⟨rfl, rfl⟩)
theorem inf_up (w : World) : Calls Tryz.prog 68 #[.int .i64 1] w fun e w' => e = .returned (.float .f64 9218868437227405312) ∧ w = w' := by
  go_enter Tryz.func68, Tryz.ntmps68
  go_wp2
  go_ret
  exact ⟨rfl, rfl⟩
theorem inf_down (w : World) : Calls Tryz.prog 68 #[.int .i64 (-1)] w fun e w' => e = .returned (.float .f64 18442240474082181120) ∧ w = w' := by
  go_enter Tryz.func68, Tryz.ntmps68
  go_wp2
  go_ret
  exact ⟨rfl, rfl⟩
theorem signbit_calls (u : Nat) (hu : u < 18446744073709551616) (w : World) : Calls Tryz.prog 88 #[.float .f64 u] w fun e w' => e = .returned (.bool (fneg u)) ∧ w = w' := by
  obtain ⟨v, hv⟩ : ∃ v, IntKind.i64.wrap (u : Int) = v := ⟨_, rfl⟩
  have hw : IntKind.i64.wrap (u : Int) = if u < 9223372036854775808 then (u : Int) else (u : Int) - 18446744073709551616 := by
    rw [IntKind.wrap_i64]; split <;> omega
  by_cases h : u < 9223372036854775808
  · have hf : fneg u = false := by unfold fneg; simp; omega
    have h2 : ¬ v < 0 := by rw [← hv, hw, if_pos h]; omega
    rw [hf]
    clear hw h hu hf
    go_enter Tryz.func88, Tryz.ntmps88
    go_wp2
    go_ret
    exact ⟨rfl, rfl⟩
  · have hf : fneg u = true := by unfold fneg; simp; omega
    have h2 : v < 0 := by rw [← hv, hw, if_neg h]; omega
    rw [hf]
    clear hw h hu hf
    go_enter Tryz.func88, Tryz.ntmps88
    go_wp2
    go_ret
    exact ⟨rfl, rfl⟩
def pairB (d : Int) (a b : Nat) : Bool := fin a && fin b && decide (0 ≤ d ∧ d ≤ 2)
set_option maxHeartbeats 1000000 in
theorem pair_calls (d : Int) (a b : Nat) (ha : a < 18446744073709551616) (hb : b < 18446744073709551616) (w : World) : Calls Tryz.prog 44 #[.int .i64 d, .float .f64 a, .float .f64 b] w fun e w' => e = .returned (.bool (pairB d a b)) ∧ w = w' := by
  obtain ⟨x, hx⟩ : ∃ x, fin a = x := ⟨_, rfl⟩
  obtain ⟨y, hy⟩ : ∃ y, fin b = y := ⟨_, rfl⟩
  have HA := Lib.hid (fun W => number?_calls a x W ha hx)
  have HB := Lib.hid (fun W => number?_calls b y W hb hy)
  have HP : Hid (pairB d a b = (x && y && decide (0 ≤ d ∧ d ≤ 2))) := by unfold pairB; rw [hx, hy]; rfl
  rw [HP.out]
  clear ha hb hx hy HP
  cases x
  · go_enter Tryz.func44, Tryz.ntmps44
    go_wp2_with fail
    refine (HA.out _).mono ?_
    rintro e w' ⟨rfl, rfl⟩
    go_wp2
    go_ret
    exact ⟨rfl, rfl⟩
  · cases y
    · go_enter Tryz.func44, Tryz.ntmps44
      go_wp2_with fail
      refine (HA.out _).mono ?_
      rintro e w' ⟨rfl, rfl⟩
      go_wp2_with fail
      refine (HB.out _).mono ?_
      rintro e w' ⟨rfl, rfl⟩
      go_wp2
      go_ret
      exact ⟨rfl, rfl⟩
    · by_cases h0 : 0 ≤ d
      · by_cases h2 : d ≤ 2
        · rw [decide_eq_true (And.intro h0 h2)]
          have hd2 : decide (d ≤ 2) = true := decide_eq_true h2
          have hd0 : decide (0 ≤ d) = true := decide_eq_true h0
          go_enter Tryz.func44, Tryz.ntmps44
          go_wp2_with fail
          refine (HA.out _).mono ?_
          rintro e w' ⟨rfl, rfl⟩
          go_wp2_with fail
          refine (HB.out _).mono ?_
          rintro e w' ⟨rfl, rfl⟩
          go_wp2
          go_ret
          exact ⟨rfl, rfl⟩
        · rw [decide_eq_false (fun h => h2 h.2)]
          have hd2 : decide (d ≤ 2) = false := decide_eq_false h2
          go_enter Tryz.func44, Tryz.ntmps44
          go_wp2_with fail
          refine (HA.out _).mono ?_
          rintro e w' ⟨rfl, rfl⟩
          go_wp2_with fail
          refine (HB.out _).mono ?_
          rintro e w' ⟨rfl, rfl⟩
          go_wp2
          go_ret
          exact ⟨rfl, rfl⟩
      · rw [decide_eq_false (fun h => h0 h.1)]
        have hd0 : decide (0 ≤ d) = false := decide_eq_false h0
        go_enter Tryz.func44, Tryz.ntmps44
        go_wp2_with fail
        refine (HA.out _).mono ?_
        rintro e w' ⟨rfl, rfl⟩
        go_wp2_with fail
        refine (HB.out _).mono ?_
        rintro e w' ⟨rfl, rfl⟩
        go_wp2
        go_ret
        exact ⟨rfl, rfl⟩
theorem nlz_calls (x : Nat) (w : World) (hx : x < 18446744073709551616) : Calls Tryz.prog 112 #[.int .u64 x] w fun e w' => e = .returned (.int .u64 ((64 - bl x : Nat) : Int)) ∧ w = w' := by
  have hb : bl x ≤ 64 := bl_le_of_lt (by simpa using hx)
  have HL := Lib.hid (fun W => blen_calls x W hx)
  obtain ⟨b, hbb⟩ : ∃ b, bl x = b := ⟨_, rfl⟩
  rw [hbb] at hb HL ⊢
  have HZ : Hid (Calls Tryz.prog 138 #[.int .u64 x] w fun e w' => e = .returned (.int .i64 ((64 - b : Nat) : Int)) ∧ w = w') := by
    have e1 : (64 : Int) - (b : Int) = ((64 - b : Nat) : Int) := by omega
    clear hbb hx
    go_enter Tryz.func138, Tryz.ntmps138
    go_wp2_with fail
    refine (HL.out _).mono ?_
    rintro e w' ⟨rfl, rfl⟩
    go_wp2
    go_ret
    exact ⟨rfl, rfl⟩
  obtain ⟨z, hz⟩ : ∃ z, 64 - b = z := ⟨_, rfl⟩
  rw [hz] at HZ ⊢
  have hz2 : z ≤ 64 := by omega
  clear hb hbb hx hz HL
  go_enter Tryz.func112, Tryz.ntmps112
  go_wp2_with fail
  refine HZ.out.mono ?_
  rintro e w' ⟨rfl, rfl⟩
  go_wp2
  go_ret
  exact ⟨rfl, rfl⟩
end Go.Proofs.YtikdhkmcdmnadaaGreatFmt

namespace Go.Proofs.YtikdhkmcdmnadaaGreatFmt
open Go.RowKit

/-! ### side -/
def fRet2 (o : Option Nat) : Ending := .returned (.tuple #[.float .f64 (o.getD 0), .bool o.isSome])
theorem isinf_word (neg : Bool) (r : Nat) (hr : r ≤ INFR) (w : World) : Calls Tryz.prog 31 #[.float .f64 (wordR neg r), .int .i64 0] w fun e w' => e = .returned (.bool (decide (r = INFR))) ∧ w = w' := by
  have hi : INFR < 9223372036854775808 := by decide
  refine isinf_calls _ _ w (word_lt (by omega)) ?_
  rw [word_abs (by omega)]
  show (Ieee.double.order (wordR false r) (wordR false MAXB) == some .gt) = _
  rw [order_word hr (by decide)]
  by_cases h : r = INFR
  · subst h
    rw [decide_eq_true rfl, Int.compare_eq_gt.2 (by decide)]; rfl
  · rw [decide_eq_false h]
    have : r ≤ MAXB := by simp only [INFR, MAXB] at *; omega
    rcases Nat.lt_or_eq_of_le this with h2 | h2
    · rw [Int.compare_eq_lt.2 (by simp only [sval, Bool.false_eq_true, if_false]; omega)]; rfl
    · rw [Int.compare_eq_eq.2 (by simp only [sval, Bool.false_eq_true, if_false]; omega)]; rfl
theorem run_fadd (ty : Nat) {u v s : Nat} (h : Ieee.double.add u v = some s) (W : World) : (binOp .add ty (.float .f64 u) (.float .f64 v)).run Tryz.prog W = .ok (.float .f64 s) W := by
  have h' : FloatKind.f64.format.add u v = some s := h
  simp [binOp, Op.floatArith, h']
theorem ret2_none {o : Option Nat} (h : o = none) : Ending.returned (.tuple #[.float .f64 0, .bool false]) = fRet2 o := by subst h; rfl
theorem ret2_some {o : Option Nat} {u : Nat} (h : o = some u) : Ending.returned (.tuple #[.float .f64 u, .bool true]) = fRet2 o := by subst h; rfl
theorem upR_le {neg : Bool} {r : Nat} (hr : r ≤ INFR) : (upR neg r).2 ≤ INFR := by
  unfold upR; cases neg
  · simp only [Bool.false_eq_true, if_false]; split <;> omega
  · simp only [if_true]; split
    · exact (by decide : 1 ≤ INFR)
    · show r - 1 ≤ INFR; omega
theorem downR_le {neg : Bool} {r : Nat} (hr : r ≤ INFR) : (downR neg r).2 ≤ INFR := by
  unfold downR; cases neg
  · simp only [Bool.false_eq_true, if_false]; split
    · exact (by decide : 1 ≤ INFR)
    · show r - 1 ≤ INFR; omega
  · simp only [if_true]; split <;> omega
set_option maxHeartbeats 2000000 in
set_option maxRecDepth 100000 in
/-- no step -/
theorem side_stay (d : Int) (neg : Bool) (r : Nat) (c : Int) (hd : 0 ≤ d ∧ d ≤ 2) (hr : r ≤ INFR) (h1 : ¬ (d = 1 ∧ c < 0)) (h2 : ¬ (d = 2 ∧ 0 < c)) (hc : -2 ≤ c ∧ c ≤ 2) (w : World) :
    Calls Tryz.prog 49 #[.int .i64 d, .float .f64 (wordR neg r), .int .i64 c] w fun e w' => e = fRet2 (sideS d neg r c) ∧ w = w' := by
  have hS : sideS d neg r c = if INFR ≤ r then none else some (sgnR neg r) := by
    unfold sideS; rw [if_neg h1, if_neg h2]
  have HI := Lib.hid (fun W => inf_down W)
  have hneg : ∀ W, (Op.unary .neg (.float .f64 18442240474082181120)).run Tryz.prog W = .ok (.float .f64 9218868437227405312) W := fun _ => rfl
  have HF := Lib.hid (fun W => isinf_word neg r hr W)
  by_cases hi : r = INFR
  · rw [decide_eq_true hi] at HF
    have HR : Hid (sideS d neg r c = none) := by rw [Hid, hS, if_pos (by omega)]
    obtain ⟨u, hu⟩ : ∃ u, wordR neg r = u := ⟨_, rfl⟩
    rw [hu] at HF ⊢
    clear hS hu hi hr
    obtain rfl | rfl | rfl : d = 0 ∨ d = 1 ∨ d = 2 := by omega
    · clear h1 h2 hd
      go_enter Tryz.func49, Tryz.ntmps49
      go_wp2_with fail
      refine (HI.out _).mono ?_
      rintro e w' ⟨rfl, rfl⟩
      go_wp2_with fail
      refine (HF.out _).mono ?_
      rintro e w' ⟨rfl, rfl⟩
      go_wp2
      go_ret2
      exact ⟨ret2_none HR.out, rfl⟩
    · have hc1 : ¬ (0 < -c) := by omega
      have hw : IntKind.i64.wrap (-c) = -c := IntWalk.i64_in _ (by omega)
      clear h1 h2 hd
      go_enter Tryz.func49, Tryz.ntmps49
      go_wp2_with fail
      refine (HI.out _).mono ?_
      rintro e w' ⟨rfl, rfl⟩
      go_wp2_with fail
      refine (HF.out _).mono ?_
      rintro e w' ⟨rfl, rfl⟩
      go_wp2
      go_ret2
      exact ⟨ret2_none HR.out, rfl⟩
    · have hc1 : ¬ (0 < c) := by omega
      clear h1 h2 hd
      go_enter Tryz.func49, Tryz.ntmps49
      go_wp2_with fail
      refine (HI.out _).mono ?_
      rintro e w' ⟨rfl, rfl⟩
      go_wp2_with fail
      refine (HF.out _).mono ?_
      rintro e w' ⟨rfl, rfl⟩
      go_wp2
      go_ret2
      exact ⟨ret2_none HR.out, rfl⟩
  · rw [decide_eq_false hi] at HF
    have hlt : r < INFR := by omega
    have ha := run_fadd 22 (add_zero_word (neg := neg) hlt)
    have HR : Hid (sideS d neg r c = some (sgnR neg r)) := by rw [Hid, hS, if_neg (by omega)]
    obtain ⟨u, hu⟩ : ∃ u, wordR neg r = u := ⟨_, rfl⟩
    obtain ⟨s, hs⟩ : ∃ s, sgnR neg r = s := ⟨_, rfl⟩
    rw [hu] at HF ha ⊢
    rw [hs] at ha HR
    clear hS hu hi hr hlt hs
    obtain rfl | rfl | rfl : d = 0 ∨ d = 1 ∨ d = 2 := by omega
    · clear h1 h2 hd
      go_enter Tryz.func49, Tryz.ntmps49
      go_wp2_with fail
      refine (HI.out _).mono ?_
      rintro e w' ⟨rfl, rfl⟩
      go_wp2_with fail
      refine (HF.out _).mono ?_
      rintro e w' ⟨rfl, rfl⟩
      go_wp2
      go_ret2
      exact ⟨ret2_some HR.out, rfl⟩
    · have hc1 : ¬ (0 < -c) := by omega
      have hw : IntKind.i64.wrap (-c) = -c := IntWalk.i64_in _ (by omega)
      clear h1 h2 hd
      go_enter Tryz.func49, Tryz.ntmps49
      go_wp2_with fail
      refine (HI.out _).mono ?_
      rintro e w' ⟨rfl, rfl⟩
      go_wp2_with fail
      refine (HF.out _).mono ?_
      rintro e w' ⟨rfl, rfl⟩
      go_wp2
      go_ret2
      exact ⟨ret2_some HR.out, rfl⟩
    · have hc1 : ¬ (0 < c) := by omega
      clear h1 h2 hd
      go_enter Tryz.func49, Tryz.ntmps49
      go_wp2_with fail
      refine (HI.out _).mono ?_
      rintro e w' ⟨rfl, rfl⟩
      go_wp2_with fail
      refine (HF.out _).mono ?_
      rintro e w' ⟨rfl, rfl⟩
      go_wp2
      go_ret2
      exact ⟨ret2_some HR.out, rfl⟩
set_option maxHeartbeats 2000000 in
set_option maxRecDepth 100000 in
/-- a step -/
theorem side_step (up neg : Bool) (r : Nat) (c : Int) (hr : r ≤ INFR) (hc : if up then c < 0 else 0 < c) (hcb : -2 ≤ c ∧ c ≤ 2) (w : World) :
    Calls Tryz.prog 49 #[.int .i64 (if up then 1 else 2), .float .f64 (wordR neg r), .int .i64 c] w fun e w' => e = fRet2 (sideS (if up then 1 else 2) neg r c) ∧ w = w' := by
  have hS : sideS (if up then 1 else 2) neg r c = if INFR ≤ (nextR up neg r).2 then none else some (sgnR (nextR up neg r).1 (nextR up neg r).2) := by
    unfold sideS nextR
    cases up
    · have hc' : 0 < c := by simpa using hc
      have hc2 : ¬ c < 0 := by omega
      simp [hc', hc2]
    · have hc' : c < 0 := by simpa using hc
      simp [hc']
  have hle : (nextR up neg r).2 ≤ INFR := by unfold nextR; cases up; exact downR_le hr; exact upR_le hr
  have HI := Lib.hid (fun W => inf_down W)
  have hneg : ∀ W, (Op.unary .neg (.float .f64 18442240474082181120)).run Tryz.prog W = .ok (.float .f64 9218868437227405312) W := fun _ => rfl
  have HN := Lib.hid (fun W => nextafter_calls up neg r hr W)
  obtain ⟨n, q, hnq⟩ : ∃ n q, nextR up neg r = (n, q) := ⟨_, _, rfl⟩
  rw [hnq] at hS hle HN
  simp only at hS hle HN
  have HF := Lib.hid (fun W => isinf_word n q hle W)
  obtain ⟨u0, hu0⟩ : ∃ u, wordR neg r = u := ⟨_, rfl⟩
  rw [hu0] at HN ⊢
  by_cases hi : q = INFR
  · rw [decide_eq_true hi] at HF
    have HR : Hid (sideS (if up then 1 else 2) neg r c = none) := by rw [Hid, hS, if_pos (by omega)]
    obtain ⟨u, hu⟩ : ∃ u, wordR n q = u := ⟨_, rfl⟩
    rw [hu] at HF HN
    clear hS hu hi hr hle hnq hu0
    cases up
    · simp only [Bool.false_eq_true, if_false] at hc HR ⊢
      go_enter Tryz.func49, Tryz.ntmps49
      go_wp2_with fail
      refine (HI.out _).mono ?_
      rintro e w' ⟨rfl, rfl⟩
      go_wp2_with fail
      refine (HN.out _).mono ?_
      rintro e w' ⟨rfl, rfl⟩
      go_wp2_with fail
      refine (HF.out _).mono ?_
      rintro e w' ⟨rfl, rfl⟩
      go_wp2
      go_ret2
      exact ⟨ret2_none HR.out, rfl⟩
    · simp only [if_true] at hc HR ⊢
      have hc1 : 0 < -c := by omega
      have hw : IntKind.i64.wrap (-c) = -c := IntWalk.i64_in _ (by omega)
      go_enter Tryz.func49, Tryz.ntmps49
      go_wp2_with fail
      refine (HI.out _).mono ?_
      rintro e w' ⟨rfl, rfl⟩
      go_wp2_with fail
      refine (HN.out _).mono ?_
      rintro e w' ⟨rfl, rfl⟩
      go_wp2_with fail
      refine (HF.out _).mono ?_
      rintro e w' ⟨rfl, rfl⟩
      go_wp2
      go_ret2
      exact ⟨ret2_none HR.out, rfl⟩
  · rw [decide_eq_false hi] at HF
    have hlt : q < INFR := by omega
    have ha := run_fadd 22 (add_zero_word (neg := n) hlt)
    have HR : Hid (sideS (if up then 1 else 2) neg r c = some (sgnR n q)) := by rw [Hid, hS, if_neg (by omega)]
    obtain ⟨u, hu⟩ : ∃ u, wordR n q = u := ⟨_, rfl⟩
    obtain ⟨s, hs⟩ : ∃ s, sgnR n q = s := ⟨_, rfl⟩
    rw [hu] at HF HN ha
    rw [hs] at ha HR
    clear hS hu hi hr hle hnq hlt hs hu0
    cases up
    · simp only [Bool.false_eq_true, if_false] at hc HR ⊢
      go_enter Tryz.func49, Tryz.ntmps49
      go_wp2_with fail
      refine (HI.out _).mono ?_
      rintro e w' ⟨rfl, rfl⟩
      go_wp2_with fail
      refine (HN.out _).mono ?_
      rintro e w' ⟨rfl, rfl⟩
      go_wp2_with fail
      refine (HF.out _).mono ?_
      rintro e w' ⟨rfl, rfl⟩
      go_wp2
      go_ret2
      exact ⟨ret2_some HR.out, rfl⟩
    · simp only [if_true] at hc HR ⊢
      have hc1 : 0 < -c := by omega
      have hw : IntKind.i64.wrap (-c) = -c := IntWalk.i64_in _ (by omega)
      go_enter Tryz.func49, Tryz.ntmps49
      go_wp2_with fail
      refine (HI.out _).mono ?_
      rintro e w' ⟨rfl, rfl⟩
      go_wp2_with fail
      refine (HN.out _).mono ?_
      rintro e w' ⟨rfl, rfl⟩
      go_wp2_with fail
      refine (HF.out _).mono ?_
      rintro e w' ⟨rfl, rfl⟩
      go_wp2
      go_ret2
      exact ⟨ret2_some HR.out, rfl⟩
theorem side_calls (d : Int) (neg : Bool) (r : Nat) (c : Int) (hd : 0 ≤ d ∧ d ≤ 2) (hr : r ≤ INFR) (hc : -2 ≤ c ∧ c ≤ 2) (w : World) :
    Calls Tryz.prog 49 #[.int .i64 d, .float .f64 (wordR neg r), .int .i64 c] w fun e w' => e = fRet2 (sideS d neg r c) ∧ w = w' := by
  by_cases h1 : d = 1 ∧ c < 0
  · obtain ⟨rfl, h1⟩ := h1
    exact side_step true neg r c hr (by simpa using h1) hc w
  · by_cases h2 : d = 2 ∧ 0 < c
    · obtain ⟨rfl, h2⟩ := h2
      exact side_step false neg r c hr (by simpa using h2) hc w
    · exact side_stay d neg r c hd hr h1 h2 hc w
end Go.Proofs.YtikdhkmcdmnadaaGreatFmt

namespace Go.Proofs.YtikdhkmcdmnadaaGreatFmt
open Go.RowKit

/-! ### Frexp -/
theorem run_fmul (ty : Nat) {u v s : Nat} (h : Ieee.double.mul u v = some s) (W : World) : (binOp .mul ty (.float .f64 u) (.float .f64 v)).run Tryz.prog W = .ok (.float .f64 s) W := by
  have h' : FloatKind.f64.format.mul u v = some s := h
  simp [binOp, Op.floatArith, h']
/-- the rung of a number below the normal ones, times 2^52 -/
def nrmR (r : Nat) : Nat := r.log2 * 4503599627370496 + r * 2 ^ (52 - r.log2)
theorem nrm_spec {r : Nat} (h0 : 0 < r) (hr : r < 4503599627370496) : rv (nrmR r) = rv r * 4503599627370496 ∧ 4503599627370496 ≤ nrmR r ∧ nrmR r < INFR := by
  have hl := log2_bl (m := r) (by omega)
  have hb : bl r ≤ 52 := bl_le_of_lt (by omega)
  have h1 := bl_le (m := r) (by omega)
  have h2 := bl_lt r
  have e1 : 2 ^ (bl r - 1) * 2 ^ (52 - r.log2) = 4503599627370496 := by
    rw [← Nat.pow_add, show bl r - 1 + (52 - r.log2) = 52 from by omega]
  have e2 : 2 ^ bl r * 2 ^ (52 - r.log2) = 9007199254740992 := by
    rw [← Nat.pow_add, show bl r + (52 - r.log2) = 53 from by omega]
  have q1 : 4503599627370496 ≤ r * 2 ^ (52 - r.log2) := by rw [← e1]; exact Nat.mul_le_mul_right _ h1
  have q2 : r * 2 ^ (52 - r.log2) < 9007199254740992 := by rw [← e2]; exact Nat.mul_lt_mul_of_pos_right h2 (Nat.pow_pos (by decide))
  have hv : rv (nrmR r) = r * 4503599627370496 := by
    unfold nrmR
    rw [rv_at (.inl q1) (Nat.le_of_lt q2), Nat.mul_assoc, ← Nat.pow_add, show 52 - r.log2 + r.log2 = 52 from by omega]
  have hs : rv r = r := by unfold rv; rw [if_pos hr]
  refine ⟨by rw [hv, hs], ?_, ?_⟩
  · unfold nrmR; omega
  · unfold nrmR; simp only [INFR]; omega
theorem mul_52 {neg : Bool} {r : Nat} (h0 : 0 < r) (hr : r < 4503599627370496) : Ieee.double.mul (wordR neg r) 4841369599423283200 = some (wordR neg (nrmR r)) := by
  obtain ⟨h1, h2, h3⟩ := nrm_spec h0 hr
  have hi : INFR < 9223372036854775808 := by decide
  have hrI : r < INFR := by simp only [INFR]; omega
  unfold Ieee.Format.mul
  rw [read_fin (word_lt (by omega)) (word_fin hrI), read_fin (u := 4841369599423283200) (by decide) (by decide), word_neg (by omega)]
  have e0 : fman 4841369599423283200 = 4503599627370496 := by decide
  have e1 : uexp 4841369599423283200 = 1075 := by decide
  have e2 : fneg 4841369599423283200 = false := by decide
  have f1 : uexp (wordR neg r) = 1 := by unfold uexp; rw [word_fexp (by omega)]; omega
  have f2 : fman (wordR neg r) = r := by
    unfold fman; rw [word_fexp (by omega), if_pos (by omega)]
    unfold wordR; split <;> omega
  rw [e0, e1, e2, f1, f2]
  simp only [Ieee.Datum.product, Option.map_some, Option.some.injEq, Ieee.Format.write]
  have hs : rv r = r := by unfold rv; rw [if_pos hr]
  rw [hs] at h1
  rw [← h1, show ((1 : Nat) : Int) - 1075 + (((1075 : Nat) : Int) - 1075) = -1074 from by decide, show (neg ^^ false) = neg from by cases neg <;> rfl]
  exact near_rv h3 (by omega)
def nrmE (r : Nat) : Int := if r < 4503599627370496 then -52 else 0
def nrmW (r : Nat) : Nat := if r < 4503599627370496 then nrmR r else r
theorem nrmW_spec {r : Nat} (h0 : 0 < r) (hr : r < INFR) : 4503599627370496 ≤ nrmW r ∧ nrmW r < INFR := by
  unfold nrmW; split
  · rename_i h; exact (nrm_spec h0 h).2
  · omega
set_option maxHeartbeats 1000000 in
theorem normalize_calls (neg : Bool) (r : Nat) (h0 : 0 < r) (hr : r < INFR) (w : World) : Calls Tryz.prog 139 #[.float .f64 (wordR neg r)] w fun e w' => e = .returned (.tuple #[.float .f64 (wordR neg (nrmW r)), .int .i64 (nrmE r)]) ∧ w = w' := by
  have hi : INFR < 9223372036854775808 := by decide
  have HA := Lib.hid (fun W => abs_calls (wordR neg r) W (word_lt (by omega)))
  rw [word_abs (by omega)] at HA
  have ho : (FloatKind.f64.format.order r 4503599627370496 == some .lt) = decide (r < 4503599627370496) := by
    show (Ieee.double.order (wordR false r) (wordR false 4503599627370496) == some .lt) = _
    rw [order_word (Nat.le_of_lt hr) (by decide)]
    by_cases h : r < 4503599627370496
    · rw [decide_eq_true h, Int.compare_eq_lt.2 (by simp only [sval, Bool.false_eq_true, if_false]; omega)]; rfl
    · rw [decide_eq_false h]
      rcases Nat.lt_or_eq_of_le (Nat.le_of_not_lt h) with h2 | h2
      · rw [Int.compare_eq_gt.2 (by simp only [sval, Bool.false_eq_true, if_false]; omega)]; rfl
      · rw [Int.compare_eq_eq.2 (by simp only [sval, Bool.false_eq_true, if_false]; omega)]; rfl
  by_cases h : r < 4503599627370496
  · have hm := run_fmul 22 (mul_52 (neg := neg) h0 h)
    rw [decide_eq_true h] at ho
    have HR : Hid (nrmW r = nrmR r ∧ nrmE r = -52) := by unfold nrmW nrmE; rw [if_pos h, if_pos h]; exact ⟨rfl, rfl⟩
    rw [HR.out.1, HR.out.2]
    obtain ⟨u, hu⟩ : ∃ u, wordR neg r = u := ⟨_, rfl⟩
    rw [hu] at HA hm ⊢
    clear h0 hr h hu hi
    go_enter Tryz.func139, Tryz.ntmps139
    go_wp2_with fail
    refine (HA.out _).mono ?_
    rintro e w' ⟨rfl, rfl⟩
    go_wp2
    go_ret2
    exact ⟨rfl, rfl⟩
  · rw [decide_eq_false h] at ho
    have HR : Hid (nrmW r = r ∧ nrmE r = 0) := by unfold nrmW nrmE; rw [if_neg h, if_neg h]; exact ⟨rfl, rfl⟩
    rw [HR.out.1, HR.out.2]
    obtain ⟨u, hu⟩ : ∃ u, wordR neg r = u := ⟨_, rfl⟩
    rw [hu] at HA ⊢
    clear h0 hr h hu hi
    go_enter Tryz.func139, Tryz.ntmps139
    go_wp2_with fail
    refine (HA.out _).mono ?_
    rintro e w' ⟨rfl, rfl⟩
    go_wp2
    go_ret2
    exact ⟨rfl, rfl⟩
def sgW (neg : Bool) : Nat := if neg then 9223372036854775808 else 0
theorem and_frac {neg : Bool} {r : Nat} (hr : r < INFR) : bits .andNot .u64 (wordR neg r : Int) 9218868437227405312 = ((sgW neg + r % 4503599627370496 : Nat) : Int) := by
  simp only [INFR] at hr
  rw [show (9218868437227405312 : Int) = ((9218868437227405312 : Nat) : Int) from rfl, u64_andNot_nat _ _ (word_lt (by omega)) (by decide), show 18446744073709551615 - 9218868437227405312 = 2 ^ 63 * 1 + (2 ^ 52 - 1) from by decide]
  congr 1
  obtain ⟨s, hs⟩ : ∃ s : Nat, (if neg then 1 else 0) = s := ⟨_, rfl⟩
  have hs1 : s < 2 := by rw [← hs]; split <;> omega
  have hw : wordR neg r = 2 ^ 63 * s + (2 ^ 52 * (r / 4503599627370496) + r % 4503599627370496) := by
    unfold wordR; rw [← hs]; cases neg <;> simp <;> omega
  have hg : sgW neg + r % 4503599627370496 = 2 ^ 63 * s + r % 4503599627370496 := by
    unfold sgW; rw [← hs]; cases neg <;> simp
  rw [hw, hg]
  have hf : r % 4503599627370496 < 2 ^ 52 := Nat.mod_lt _ (by decide)
  have hlow : 2 ^ 52 * (r / 4503599627370496) + r % 4503599627370496 < 2 ^ 63 := by omega
  generalize r % 4503599627370496 = f at *
  generalize r / 4503599627370496 = E at *
  apply Nat.eq_of_testBit_eq
  intro i
  rw [Nat.testBit_and, Nat.testBit_two_pow_mul_add _ hlow, Nat.testBit_two_pow_mul_add _ (show 2 ^ 52 - 1 < 2 ^ 63 by decide), Nat.testBit_two_pow_mul_add _ (show f < 2 ^ 63 from Nat.lt_of_lt_of_le hf (by decide))]
  by_cases h63 : i < 63
  · rw [if_pos h63, if_pos h63, if_pos h63, Nat.testBit_two_pow_mul_add _ hf, Nat.testBit_two_pow_sub_one]
    by_cases h52 : i < 52
    · rw [if_pos h52]; simp [h52]
    · rw [if_neg h52]
      have : f.testBit i = false := Nat.testBit_lt_two_pow (Nat.lt_of_lt_of_le hf (Nat.pow_le_pow_right (by decide) (by omega)))
      simp [h52, this]
  · rw [if_neg h63, if_neg h63, if_neg h63]
    by_cases h : i = 63
    · subst h; simp
    · have : s.testBit (i - 63) = false := Nat.testBit_lt_two_pow (Nat.lt_of_lt_of_le hs1 (by
        calc 2 = 2 ^ 1 := rfl
          _ ≤ 2 ^ (i - 63) := Nat.pow_le_pow_right (by decide) (by omega)))
      simp [this]
theorem or_half {neg : Bool} {f : Nat} (hf : f < 4503599627370496) : bits .or .u64 ((sgW neg + f : Nat) : Int) 4602678819172646912 = ((sgW neg + 4602678819172646912 + f : Nat) : Int) := by
  have hg : sgW neg ≤ 9223372036854775808 ∧ sgW neg % 2 ^ 63 = 0 := by unfold sgW; cases neg <;> decide
  rw [show (4602678819172646912 : Int) = ((4602678819172646912 : Nat) : Int) from rfl, u64_or_nat _ _ (by omega) (by decide)]
  congr 1
  have e1 : sgW neg + f = f ||| sgW neg := by rw [or_add_low (r := 63) (by omega) hg.2, Nat.add_comm]
  have e2 : sgW neg ||| 4602678819172646912 = 4602678819172646912 + sgW neg := by rw [Nat.or_comm, or_add_low (r := 63) (by decide) hg.2]
  rw [e1, Nat.or_assoc, e2, or_add_low (r := 52) hf (by omega)]
  omega
def frB (neg : Bool) (r : Nat) : Nat := sgW neg + 4602678819172646912 + nrmW r % 4503599627370496
def frE (r : Nat) : Int := nrmE r + ((nrmW r / 4503599627370496 : Nat) : Int) - 1022
set_option maxHeartbeats 1000000 in
theorem frexp_calls (neg : Bool) (r : Nat) (h0 : 0 < r) (hr : r < INFR) (w : World) : Calls Tryz.prog 89 #[.float .f64 (wordR neg r)] w fun e w' => e = .returned (.tuple #[.float .f64 (frB neg r), .int .i64 (frE r)]) ∧ w = w' := by
  have hi : INFR < 9223372036854775808 := by decide
  obtain ⟨n1, n2⟩ := nrmW_spec h0 hr
  have HN := Lib.hid (fun W => normalize_calls neg r h0 hr W)
  have HF := Lib.hid (fun W => isinf_word neg r (Nat.le_of_lt hr) W)
  rw [decide_eq_false (by omega : ¬ r = INFR)] at HF
  have HA := Lib.hid (fun W => isnan_word neg r (Nat.le_of_lt hr) W)
  have ho : (FloatKind.f64.format.order (wordR neg r) 0 == some .eq) = false := by
    show (Ieee.double.order (wordR neg r) (wordR false 0) == some .eq) = false
    rw [order_word (Nat.le_of_lt hr) (by decide)]
    cases neg
    · rw [Int.compare_eq_gt.2 (by simp only [sval, Bool.false_eq_true, if_false]; omega)]; rfl
    · rw [Int.compare_eq_lt.2 (by simp only [sval, Bool.false_eq_true, if_false, if_true]; omega)]; rfl
  have b1 := bits_fexp (word_lt (neg := neg) (r := nrmW r) (by omega))
  rw [word_fexp (by omega)] at b1
  have b2 := and_frac (neg := neg) n2
  have b3 := or_half (neg := neg) (f := nrmW r % 4503599627370496) (Nat.mod_lt _ (by decide))
  have hE : nrmW r / 4503599627370496 < 2048 := by simp only [INFR] at n2; omega
  have hnE : -52 ≤ nrmE r ∧ nrmE r ≤ 0 := by unfold nrmE; split <;> omega
  have HR : Hid (frB neg r = sgW neg + 4602678819172646912 + nrmW r % 4503599627370496 ∧ frE r = nrmE r + (((nrmW r / 4503599627370496 : Nat) : Int) - 1023 + 1)) := ⟨rfl, by unfold frE; omega⟩
  obtain ⟨u, hu⟩ : ∃ u, wordR neg r = u := ⟨_, rfl⟩
  obtain ⟨y, hy⟩ : ∃ y, wordR neg (nrmW r) = y := ⟨_, rfl⟩
  obtain ⟨z, hz⟩ : ∃ z, sgW neg + nrmW r % 4503599627370496 = z := ⟨_, rfl⟩
  obtain ⟨x, hx⟩ : ∃ x, sgW neg + 4602678819172646912 + nrmW r % 4503599627370496 = x := ⟨_, rfl⟩
  obtain ⟨E, hEE⟩ : ∃ E, nrmW r / 4503599627370496 = E := ⟨_, rfl⟩
  obtain ⟨ne, hne⟩ : ∃ ne, nrmE r = ne := ⟨_, rfl⟩
  rw [hy, hne, hu] at HN
  rw [hy] at b1 b2
  rw [hz] at b2 b3
  rw [hx] at b3 HR
  rw [hEE] at b1 hE HR
  rw [hne] at hnE HR
  rw [hu] at HF HA ho ⊢
  have HRE : Hid (frE r = ne + ((E : Int) - 1023 + 1)) := HR.out.2
  have HRB : Hid (frB neg r = x) := HR.out.1
  have hw1 : IntKind.i64.wrap (E : Int) = E := IntWalk.i64_in _ (by omega)
  clear hu hy hz hx hEE hne HR n1 n2 h0 hr hi
  have HFR : Hid (∀ W, Calls Tryz.prog 115 #[.float .f64 u] W fun e w' => e = .returned (.tuple #[.float .f64 (frB neg r), .int .i64 (frE r)]) ∧ W = w') := by
    intro w
    rw [HRE.out, HRB.out]
    go_enter Tryz.func115, Tryz.ntmps115
    go_wp2_with fail
    refine (HF.out _).mono ?_
    rintro e w' ⟨rfl, rfl⟩
    go_wp2_with fail
    refine (HA.out _).mono ?_
    rintro e w' ⟨rfl, rfl⟩
    go_wp2_with fail
    refine (HN.out _).mono ?_
    rintro e w' ⟨rfl, rfl⟩
    go_wp2
    go_ret2
    exact ⟨rfl, rfl⟩
  clear HN HF HA ho b1 b2 b3 hE hnE HRE HRB hw1
  obtain ⟨fb, hfb⟩ : ∃ b, frB neg r = b := ⟨_, rfl⟩
  obtain ⟨fe, hfe⟩ : ∃ b, frE r = b := ⟨_, rfl⟩
  rw [hfb, hfe] at HFR ⊢
  clear hfb hfe
  go_enter Tryz.func89, Tryz.ntmps89
  go_wp2_with fail
  refine (HFR.out _).mono ?_
  rintro e w' ⟨rfl, rfl⟩
  go_wp2
  go_ret2
  exact ⟨rfl, rfl⟩
end Go.Proofs.YtikdhkmcdmnadaaGreatFmt
