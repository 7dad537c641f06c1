/- Walks and plain laws of this seat's functions, part 32: G27b G28. -/
import Derived.Test.YtikdhkmcdmnadaaGreatFmtJ31
set_option linter.unusedVariables false
set_option linter.unusedSimpArgs false
namespace Go.Proofs.YtikdhkmcdmnadaaGreatFmt
open Go.RowKit
attribute [local go_sem ↓] Go.wp_at_zero Go.wp_at_succ

set_option maxHeartbeats 4000000 in
set_option maxRecDepth 100000 in
/-- a quotient that is an infinity -/
theorem rdiv_inf (d : Int) (u v rq : Nat) (n : Bool) (hu : u < 18446744073709551616) (hv : v < 18446744073709551616) (hp : pairB d u v = true) (hv0 : (FloatKind.f64.format.order v 0 == some .eq) = false) (hq : Ieee.double.div u v = some (wordR n INFR)) (hd : 0 ≤ d ∧ d ≤ 2) (w : World) :
    Calls Tryz.prog 28 #[.int .i64 d, .float .f64 u, .float .f64 v] w fun e w' => e = fRet2 (sideS d n INFR (if n then -1 else 1)) ∧ Below w.heap.size w w' := by
  have HP := Lib.hid (fun W => pair_calls d u v hu hv W)
  rw [hp] at HP
  have hquo := run_fquo 22 hq
  have HI := Lib.hid (fun W => isinf_word n INFR (Nat.le_refl _) W)
  rw [decide_eq_true rfl] at HI
  have hlt := lt_zero_f (b := n) (s := INFR) (Nat.le_refl _) (by decide)
  have HS := Lib.hid (fun c W (hc : -2 ≤ c ∧ c ≤ 2) => side_calls d n INFR c hd (Nat.le_refl _) hc W)
  obtain ⟨q, hqq⟩ : ∃ q, wordR n INFR = q := ⟨_, rfl⟩
  rw [hqq] at hquo HI hlt HS
  clear hu hv hp hq hd hqq
  cases n
  · have HS1 := Lib.hid (fun W => HS.out 1 W (by decide))
    obtain ⟨o, ho⟩ : ∃ o, sideS d false INFR 1 = o := ⟨_, rfl⟩
    rw [ho] at HS1
    have HO : Hid (sideS d false INFR (if false then -1 else 1) = o) := ho
    rw [HO.out]
    clear HS ho
    go_enter Tryz.func28, Tryz.ntmps28
    go_wp2_with fail
    refine (HP.out _).mono ?_
    rintro e w' ⟨rfl, rfl⟩
    go_wp2_with fail
    refine (HI.out _).mono ?_
    rintro e w' ⟨rfl, rfl⟩
    go_wp2_with fail
    refine (HS1.out _).mono ?_
    rintro e w' ⟨rfl, rfl⟩
    unfold fRet2
    go_wp2
    go_ret2
    exact ⟨rfl, Below.refl _ _⟩
  · have HS1 := Lib.hid (fun W => HS.out (-1) W (by decide))
    obtain ⟨o, ho⟩ : ∃ o, sideS d true INFR (-1) = o := ⟨_, rfl⟩
    rw [ho] at HS1
    have HO : Hid (sideS d true INFR (if true then -1 else 1) = o) := ho
    rw [HO.out]
    clear HS ho
    go_enter Tryz.func28, Tryz.ntmps28
    go_wp2_with fail
    refine (HP.out _).mono ?_
    rintro e w' ⟨rfl, rfl⟩
    go_wp2_with fail
    refine (HI.out _).mono ?_
    rintro e w' ⟨rfl, rfl⟩
    go_wp2_with fail
    refine (HS1.out _).mono ?_
    rintro e w' ⟨rfl, rfl⟩
    unfold fRet2
    go_wp2
    go_ret2
    exact ⟨rfl, Below.refl _ _⟩
end Go.Proofs.YtikdhkmcdmnadaaGreatFmt

namespace Go.Proofs.YtikdhkmcdmnadaaGreatFmt
open Go.RowKit
attribute [local go_sem ↓] Go.wp_at_zero Go.wp_at_succ

/-! ### round.Div, of any two -/
theorem div_true {d : Int} {u v : Nat} (h : pairB d u v = true) (h0 : uabs v ≠ 0) : divS d u v = if uabs u = 0 then some 0 else qS d (fneg u != fneg v) (rv (uabs u)) (rv (uabs v)) := by
  unfold divS; rw [h, decide_eq_true h0, Bool.and_self, if_pos rfl]
theorem div_false1 {d : Int} {u v : Nat} (h : pairB d u v = false) : divS d u v = none := by unfold divS; rw [h, Bool.false_and, if_neg (by decide)]
theorem div_false2 {d : Int} {u v : Nat} (h0 : uabs v = 0) : divS d u v = none := by unfold divS; rw [decide_eq_false (by omega), Bool.and_false, if_neg (by decide)]
set_option maxHeartbeats 1000000 in
set_option maxRecDepth 100000 in
theorem rdiv_none1 (d : Int) (u v : Nat) (hu : u < 18446744073709551616) (hv : v < 18446744073709551616) (hp : pairB d u v = false) (w : World) :
    Calls Tryz.prog 28 #[.int .i64 d, .float .f64 u, .float .f64 v] w fun e w' => e = fRet2 none ∧ Below w.heap.size w w' := by
  have HP := Lib.hid (fun W => pair_calls d u v hu hv W)
  rw [hp] at HP
  clear hu hv hp
  go_enter Tryz.func28, Tryz.ntmps28
  go_wp2_with fail
  refine (HP.out _).mono ?_
  rintro e w' ⟨rfl, rfl⟩
  go_wp2
  go_ret2
  exact ⟨rfl, Below.refl _ _⟩
set_option maxHeartbeats 1000000 in
set_option maxRecDepth 100000 in
theorem rdiv_none2 (d : Int) (u v : Nat) (hu : u < 18446744073709551616) (hv : v < 18446744073709551616) (hp : pairB d u v = true) (h0 : (FloatKind.f64.format.order v 0 == some .eq) = true) (w : World) :
    Calls Tryz.prog 28 #[.int .i64 d, .float .f64 u, .float .f64 v] w fun e w' => e = fRet2 none ∧ Below w.heap.size w w' := by
  have HP := Lib.hid (fun W => pair_calls d u v hu hv W)
  rw [hp] at HP
  clear hu hv hp
  go_enter Tryz.func28, Tryz.ntmps28
  go_wp2_with fail
  refine (HP.out _).mono ?_
  rintro e w' ⟨rfl, rfl⟩
  go_wp2
  go_ret2
  exact ⟨rfl, Below.refl _ _⟩
theorem rv_ne {r : Nat} (h : r ≠ 0) : rv r ≠ 0 := by have := rv_pos h; omega
theorem rdiv_calls (d : Int) (u v : Nat) (hu : u < 18446744073709551616) (hv : v < 18446744073709551616) (w : World) :
    Calls Tryz.prog 28 #[.int .i64 d, .float .f64 u, .float .f64 v] w fun e w' => e = fRet2 (divS d u v) ∧ Below w.heap.size w w' := by
  rcases hp : pairB d u v with _ | _
  · rw [div_false1 hp]; exact rdiv_none1 d u v hu hv hp w
  · obtain ⟨fu, fv', hd1, hd2⟩ := pairB_true hp
    obtain ⟨ew, hr⟩ := word_of hu fu
    obtain ⟨ev, hs⟩ := word_of hv fv'
    have hvz := eq_zero_f (b := fneg v) (Nat.le_of_lt hs)
    rw [← ev] at hvz
    by_cases h0 : uabs v = 0
    · rw [div_false2 h0]
      rw [decide_eq_true h0] at hvz
      exact rdiv_none2 d u v hu hv hp hvz w
    · rw [decide_eq_false h0] at hvz
      have hvl := lt_zero_f (b := fneg v) (Nat.le_of_lt hs) h0
      rw [← ev] at hvl
      rw [div_true hp h0]
      have hfv := fv_word (neg := fneg v) hs
      rw [← ev] at hfv
      have hfu := fv_word (neg := fneg u) hr
      rw [← ew] at hfu
      by_cases hr0 : uabs u = 0
      · rw [if_pos hr0]
        have hq := div_zero_word (a := fneg u) (b := fneg v) hs h0
        rw [← ev] at hq
        rw [hr0] at ew hfu
        rw [← ew] at hq
        refine (rdiv_fin d u v 0 (fneg u != fneg v) (fneg v) hu hv hp hvz hvl hq (by decide) 0 ?_ w).mono ?_
        · rw [hfu, rv_zero, sg_zero, sg_zero, Int.zero_mul, Int.zero_mul, Int.zero_mul, Int.zero_mul, Int.sub_self]; rfl
        · rintro e w' ⟨rfl, hW⟩
          refine ⟨?_, hW⟩
          refine congrArg fRet2 ?_
          have e1 : (if fneg v = true then -(0 : Int) else 0) = 0 := by cases fneg v <;> rfl
          rw [e1]
          unfold sideS
          simp only [Int.lt_irrefl, and_false, if_false]
          rw [if_neg (by decide), sgnR_zero]
      · rw [if_neg hr0]
        have hq := div_word (a := fneg u) (b := fneg v) hr hs hr0 h0
        rw [← ev, ← ew] at hq
        have hsp := side_spec ⟨hd1, hd2⟩ (fneg u != fneg v) (restQ (rv (uabs u)) (rv (uabs v))) (hQ (rv (uabs u)) (rv (uabs v))) (eQ (rv (uabs u)) (rv (uabs v)))
        have hqs : qS d (fneg u != fneg v) (rv (uabs u)) (rv (uabs v)) = toldR d (fneg u != fneg v) (hQ (rv (uabs u)) (rv (uabs v))) (restQ (rv (uabs u)) (rv (uabs v))) (eQ (rv (uabs u)) (rv (uabs v))) := by rw [qS]
        rw [hqs, ← hsp]
        rcases Nat.lt_or_ge (r0R (hQ (rv (uabs u)) (rv (uabs v))) (restQ (rv (uabs u)) (rv (uabs v))) (eQ (rv (uabs u)) (rv (uabs v)))) INFR with hlt | hge
        · have hcmp := div_cmp (a := fneg u) (b := fneg v) (rq := nearR (hQ (rv (uabs u)) (rv (uabs v))) (restQ (rv (uabs u)) (rv (uabs v))) (eQ (rv (uabs u)) (rv (uabs v)))) (rv_ne hr0) (rv_ne h0) hlt rfl
          rw [← hcmp]
          refine rdiv_fin d u v _ (fneg u != fneg v) (fneg v) hu hv hp hvz hvl hq ?_ _ ?_ w
          · unfold nearR; rw [Nat.min_eq_left (Nat.le_of_lt hlt)]; exact hlt
          · rw [hfu, hfv]
        · have hn : nearR (hQ (rv (uabs u)) (rv (uabs v))) (restQ (rv (uabs u)) (rv (uabs v))) (eQ (rv (uabs u)) (rv (uabs v))) = INFR := by unfold nearR; exact Nat.min_eq_right hge
          have ha : accR (fneg u != fneg v) (hQ (rv (uabs u)) (rv (uabs v))) (restQ (rv (uabs u)) (rv (uabs v))) (eQ (rv (uabs u)) (rv (uabs v))) = if (fneg u != fneg v) then -1 else 1 := by unfold accR; rw [if_pos hge]
          rw [hn] at hq ⊢
          rw [ha]
          exact rdiv_inf d u v INFR (fneg u != fneg v) hu hv hp hvz hq ⟨hd1, hd2⟩ w
end Go.Proofs.YtikdhkmcdmnadaaGreatFmt
