/- Walks and plain laws of this seat's functions, part 35: G27 G27b G28. -/
import Derived.Test.YtikdhkmcdmnadaaGreatFmtBesafterJ32
set_option linter.unusedVariables false
set_option linter.unusedSimpArgs false
namespace Go.Proofs.YtikdhkmcdmnadaaGreatFmtBesafter
open Go.RowKit
attribute [local go_sem ↓] Go.wp_at_zero Go.wp_at_succ

set_option exponentiation.threshold 3000 in
set_option maxHeartbeats 4000000 in
set_option maxRecDepth 100000 in
/-- a quotient that is a number -/
theorem rdiv_fin (d : Int) (u v rq : Nat) (n b : Bool) (hu : u < 18446744073709551616) (hv : v < 18446744073709551616) (hp : pairB d u v = true) (hv0 : (FloatKind.f64.format.order v 0 == some .eq) = false) (hvl : (FloatKind.f64.format.order v 0 == some .lt) = b) (hq : Ieee.double.div u v = some (wordR n rq)) (hrq : rq < INFR) (c0 : Int)
    (hc0 : Int.sign (sg n (rv rq) * ((2 ^ 66 : Nat) : Int) * (fv v * ((2 ^ 66 : Nat) : Int)) * ((2 ^ 64 : Nat) : Int) - fv u * ((2 ^ 1270 : Nat) : Int)) = c0) (w : World) :
    Calls Tryz.prog 20 #[.int .i64 d, .float .f64 u, .float .f64 v] w fun e w' => e = fRet2 (sideS d n rq (if b then -c0 else c0)) ∧ Below w.heap.size w w' := by
  obtain ⟨fu, fv', hd1, hd2⟩ := pairB_true hp
  have hi : INFR < 9223372036854775808 := by decide
  have HP := Lib.hid (fun W => pair_calls d u v hu hv W)
  rw [hp] at HP
  have hquo := run_fquo 22 hq
  have HI := Lib.hid (fun W => isinf_word n rq (Nat.le_of_lt hrq) W)
  rw [decide_eq_false (by omega : ¬ rq = INFR)] at HI
  have hqb : wordR n rq < 18446744073709551616 := word_lt (by omega)
  have hqv := fv_word (neg := n) hrq
  have HEQ := Lib.hid (fun W => exact66 (wordR n rq) hqb (word_fin hrq) W)
  rw [hqv] at HEQ
  have HEV := Lib.hid (fun W => exact66 v hv fv' W)
  have HEU := Lib.hid (fun W => exact_calls u 2344 hu fu (by decide) W)
  have hbq : (sg n (rv rq) * ((2 ^ 66 : Nat) : Int)).natAbs < 2 ^ 2164 := scale_bd (by rw [sg_abs]; exact rv_bd hrq)
  have HSP := Lib.hid (fun W => setprec_calls w.heap.size W)
  have HMU := Lib.hid (fun W b1 b2 (hz : Blk W w.heap.size 65 (fC 2300 0 0 false (.slice none 0 0) 0)) (hx : FVal W 1140 1 b1 (sg n (rv rq) * ((2 ^ 66 : Nat) : Int))) (hy : FVal W 1140 1 b2 (fv v * ((2 ^ 66 : Nat) : Int))) (h1 : b1 ≠ w.heap.size) (h2 : b2 ≠ w.heap.size) (h3 : b1 ≠ b2) => mulf_calls w.heap.size b1 b2 1140 1140 2164 _ _ W hz hx hy h3 h1 h2 (by decide) (by decide) hbq (scale_bd (fv_bd hv fv')) (by decide))
  have HC := Lib.hid (fun W b2 (hx : FVal W 2344 2 w.heap.size (sg n (rv rq) * ((2 ^ 66 : Nat) : Int) * (fv v * ((2 ^ 66 : Nat) : Int)) * ((2 ^ 64 : Nat) : Int))) (hy : FVal W 2344 1 b2 (fv u * ((2 ^ 1270 : Nat) : Int))) => cmpf_calls w.heap.size b2 2344 2 1 _ _ W hx hy)
  rw [hc0] at HC
  have hcb : -1 ≤ c0 ∧ c0 ≤ 1 := by
    rw [← hc0]
    rcases Int.lt_trichotomy (sg n (rv rq) * ((2 ^ 66 : Nat) : Int) * (fv v * ((2 ^ 66 : Nat) : Int)) * ((2 ^ 64 : Nat) : Int) - fv u * ((2 ^ 1270 : Nat) : Int)) 0 with h | h | h
    · rw [Int.sign_eq_neg_one_of_neg h]; decide
    · rw [h]; decide
    · rw [Int.sign_eq_one_of_pos h]; decide
  have HS := Lib.hid (fun c W (hc : -2 ≤ c ∧ c ≤ 2) => side_calls d n rq c ⟨hd1, hd2⟩ (Nat.le_of_lt hrq) hc W)
  have HSA := Lib.hid (fun W => HS.out c0 W (by omega))
  have HSB := Lib.hid (fun W => HS.out (-c0) W (by omega))
  have hwn : IntKind.i64.wrap (-c0) = -c0 := IntWalk.i64_in _ (by omega)
  have HN := Lib.hid (float_new w)
  have HW := Lib.hid (below_new (Below.refl w.heap.size w) (.cells #[.int .u32 0, .int .u8 0, .int .i8 0, .int .u8 0, .bool false, .slice none 0 0, .int .i32 0] 65))
  obtain ⟨q, hqq⟩ : ∃ q, wordR n rq = q := ⟨_, rfl⟩
  rw [hqq] at hquo HI HEQ HSA HSB
  obtain ⟨XP, hXP⟩ : ∃ x, sg n (rv rq) * ((2 ^ 66 : Nat) : Int) = x := ⟨_, rfl⟩
  rw [hXP] at HEQ HMU HC
  obtain ⟨XV, hXV⟩ : ∃ x, fv v * ((2 ^ 66 : Nat) : Int) = x := ⟨_, rfl⟩
  rw [hXV] at HEV HMU HC
  obtain ⟨o1, ho1⟩ : ∃ o, sideS d n rq c0 = o := ⟨_, rfl⟩
  obtain ⟨o2, ho2⟩ : ∃ o, sideS d n rq (-c0) = o := ⟨_, rfl⟩
  rw [ho1] at HSA
  rw [ho2] at HSB
  have HOO : Hid (sideS d n rq (if b then -c0 else c0) = if b then o2 else o1) := by cases b; exact ho1; exact ho2
  rw [HOO.out]
  clear hu hv hp hq hrq hi hqb hqv hbq hcb hc0 fu fv' hd1 hd2 hqq hXP hXV ho1 ho2 HS HOO
  cases b
  · go_enter Tryz.func20, Tryz.ntmps20
    go_wp2_with fail
    refine (HP.out _).mono ?_
    rintro e w' ⟨rfl, rfl⟩
    go_wp2_with fail
    refine (HI.out _).mono ?_
    rintro e w' ⟨rfl, rfl⟩
    go_wp2_with fail
    refine (HSP.out _ HN.out).mono ?_
    rintro e w1 ⟨rfl, hz1, hW1⟩
    have H1 := Lib.hid (And.intro hz1 (HW.out.trans hW1))
    clear hz1 hW1
    go_wp2_with fail
    refine (HEQ.out _).mono ?_
    rintro e w2 ⟨rfl, hx2, hW2⟩
    have H2 := Lib.hid (And.intro hx2 hW2)
    clear hx2 hW2
    go_wp2_with fail
    refine (HEV.out _).mono ?_
    rintro e w3 ⟨rfl, hy3, hW3⟩
    have H3 := Lib.hid (And.intro hy3 hW3)
    clear hy3 hW3
    go_wp2_with fail
    have hs1 : w.heap.size < w1.heap.size := H1.out.1.lt
    have hs2 : w1.heap.size < w2.heap.size := H2.out.1.lt
    refine (HMU.out w3 w1.heap.size w2.heap.size ((H1.out.1.below' H2.out.2).below' H3.out.2) (H2.out.1.keep H3.out.2) H3.out.1 (by omega) (by omega) (by omega)).mono ?_
    rintro e w4 ⟨rfl, hf, hW4⟩
    have H4 : Hid (FVal w4 2344 2 w.heap.size (XP * XV * ((2 ^ 64 : Nat) : Int)) ∧ Below w.heap.size w w4) := ⟨hf, ((H1.out.2.trans (H2.out.2.mono (Nat.le_of_lt hs1))).trans (H3.out.2.mono (by omega))).trans hW4⟩
    clear hf hW4 hs1 hs2
    go_wp2_with fail
    refine (HEU.out _).mono ?_
    rintro e w5 ⟨rfl, hx5, hW5⟩
    have H5 := Lib.hid (And.intro hx5 hW5)
    clear hx5 hW5
    go_wp2_with fail
    refine (HC.out w5 w4.heap.size (H4.out.1.keep H5.out.2) H5.out.1).mono ?_
    rintro e w6 ⟨rfl, q6, rfl⟩
    go_wp2_with fail
    refine (HSA.out _).mono ?_
    rintro e w' ⟨rfl, rfl⟩
    unfold fRet2
    go_wp2
    go_ret2
    exact ⟨rfl, below_drewN (H4.out.2.trans (H5.out.2.mono H4.out.2.size)) q6⟩
  · go_enter Tryz.func20, Tryz.ntmps20
    go_wp2_with fail
    refine (HP.out _).mono ?_
    rintro e w' ⟨rfl, rfl⟩
    go_wp2_with fail
    refine (HI.out _).mono ?_
    rintro e w' ⟨rfl, rfl⟩
    go_wp2_with fail
    refine (HSP.out _ HN.out).mono ?_
    rintro e w1 ⟨rfl, hz1, hW1⟩
    have H1 := Lib.hid (And.intro hz1 (HW.out.trans hW1))
    clear hz1 hW1
    go_wp2_with fail
    refine (HEQ.out _).mono ?_
    rintro e w2 ⟨rfl, hx2, hW2⟩
    have H2 := Lib.hid (And.intro hx2 hW2)
    clear hx2 hW2
    go_wp2_with fail
    refine (HEV.out _).mono ?_
    rintro e w3 ⟨rfl, hy3, hW3⟩
    have H3 := Lib.hid (And.intro hy3 hW3)
    clear hy3 hW3
    go_wp2_with fail
    have hs1 : w.heap.size < w1.heap.size := H1.out.1.lt
    have hs2 : w1.heap.size < w2.heap.size := H2.out.1.lt
    refine (HMU.out w3 w1.heap.size w2.heap.size ((H1.out.1.below' H2.out.2).below' H3.out.2) (H2.out.1.keep H3.out.2) H3.out.1 (by omega) (by omega) (by omega)).mono ?_
    rintro e w4 ⟨rfl, hf, hW4⟩
    have H4 : Hid (FVal w4 2344 2 w.heap.size (XP * XV * ((2 ^ 64 : Nat) : Int)) ∧ Below w.heap.size w w4) := ⟨hf, ((H1.out.2.trans (H2.out.2.mono (Nat.le_of_lt hs1))).trans (H3.out.2.mono (by omega))).trans hW4⟩
    clear hf hW4 hs1 hs2
    go_wp2_with fail
    refine (HEU.out _).mono ?_
    rintro e w5 ⟨rfl, hx5, hW5⟩
    have H5 := Lib.hid (And.intro hx5 hW5)
    clear hx5 hW5
    go_wp2_with fail
    refine (HC.out w5 w4.heap.size (H4.out.1.keep H5.out.2) H5.out.1).mono ?_
    rintro e w6 ⟨rfl, q6, rfl⟩
    go_wp2_with fail
    refine (HSB.out _).mono ?_
    rintro e w' ⟨rfl, rfl⟩
    unfold fRet2
    go_wp2
    go_ret2
    exact ⟨rfl, below_drewN (H4.out.2.trans (H5.out.2.mono H4.out.2.size)) q6⟩
end Go.Proofs.YtikdhkmcdmnadaaGreatFmtBesafter

namespace Go.Proofs.YtikdhkmcdmnadaaGreatFmtBesafter
open Go.RowKit
attribute [local go_sem ↓] Go.wp_at_zero Go.wp_at_succ

set_option maxHeartbeats 4000000 in
set_option maxRecDepth 100000 in
/-- a quotient that is an infinity -/
theorem rdiv_inf (d : Int) (u v rq : Nat) (n : Bool) (hu : u < 18446744073709551616) (hv : v < 18446744073709551616) (hp : pairB d u v = true) (hv0 : (FloatKind.f64.format.order v 0 == some .eq) = false) (hq : Ieee.double.div u v = some (wordR n INFR)) (hd : 0 ≤ d ∧ d ≤ 2) (w : World) :
    Calls Tryz.prog 20 #[.int .i64 d, .float .f64 u, .float .f64 v] w fun e w' => e = fRet2 (sideS d n INFR (if n then -1 else 1)) ∧ Below w.heap.size w w' := by
  have HP := Lib.hid (fun W => pair_calls d u v hu hv W)
  rw [hp] at HP
  have hquo := run_fquo 22 hq
  have HI := Lib.hid (fun W => isinf_word n INFR (Nat.le_refl _) W)
  rw [decide_eq_true rfl] at HI
  have hlt := lt_zero_f (b := n) (s := INFR) (Nat.le_refl _) (by decide)
  have HS := Lib.hid (fun c W (hc : -2 ≤ c ∧ c ≤ 2) => side_calls d n INFR c hd (Nat.le_refl _) hc W)
  obtain ⟨q, hqq⟩ : ∃ q, wordR n INFR = q := ⟨_, rfl⟩
  rw [hqq] at hquo HI hlt HS
  clear hu hv hp hq hd hqq
  cases n
  · have HS1 := Lib.hid (fun W => HS.out 1 W (by decide))
    obtain ⟨o, ho⟩ : ∃ o, sideS d false INFR 1 = o := ⟨_, rfl⟩
    rw [ho] at HS1
    have HO : Hid (sideS d false INFR (if false then -1 else 1) = o) := ho
    rw [HO.out]
    clear HS ho
    go_enter Tryz.func20, Tryz.ntmps20
    go_wp2_with fail
    refine (HP.out _).mono ?_
    rintro e w' ⟨rfl, rfl⟩
    go_wp2_with fail
    refine (HI.out _).mono ?_
    rintro e w' ⟨rfl, rfl⟩
    go_wp2_with fail
    refine (HS1.out _).mono ?_
    rintro e w' ⟨rfl, rfl⟩
    unfold fRet2
    go_wp2
    go_ret2
    exact ⟨rfl, Below.refl _ _⟩
  · have HS1 := Lib.hid (fun W => HS.out (-1) W (by decide))
    obtain ⟨o, ho⟩ : ∃ o, sideS d true INFR (-1) = o := ⟨_, rfl⟩
    rw [ho] at HS1
    have HO : Hid (sideS d true INFR (if true then -1 else 1) = o) := ho
    rw [HO.out]
    clear HS ho
    go_enter Tryz.func20, Tryz.ntmps20
    go_wp2_with fail
    refine (HP.out _).mono ?_
    rintro e w' ⟨rfl, rfl⟩
    go_wp2_with fail
    refine (HI.out _).mono ?_
    rintro e w' ⟨rfl, rfl⟩
    go_wp2_with fail
    refine (HS1.out _).mono ?_
    rintro e w' ⟨rfl, rfl⟩
    unfold fRet2
    go_wp2
    go_ret2
    exact ⟨rfl, Below.refl _ _⟩
end Go.Proofs.YtikdhkmcdmnadaaGreatFmtBesafter

namespace Go.Proofs.YtikdhkmcdmnadaaGreatFmtBesafter
open Go.RowKit
attribute [local go_sem ↓] Go.wp_at_zero Go.wp_at_succ

/-! ### round.Div, of any two -/
theorem div_true {d : Int} {u v : Nat} (h : pairB d u v = true) (h0 : uabs v ≠ 0) : divS d u v = if uabs u = 0 then some 0 else qS d (fneg u != fneg v) (rv (uabs u)) (rv (uabs v)) := by
  unfold divS; rw [h, decide_eq_true h0, Bool.and_self, if_pos rfl]
theorem div_false1 {d : Int} {u v : Nat} (h : pairB d u v = false) : divS d u v = none := by unfold divS; rw [h, Bool.false_and, if_neg (by decide)]
theorem div_false2 {d : Int} {u v : Nat} (h0 : uabs v = 0) : divS d u v = none := by unfold divS; rw [decide_eq_false (by omega), Bool.and_false, if_neg (by decide)]
set_option maxHeartbeats 1000000 in
set_option maxRecDepth 100000 in
theorem rdiv_none1 (d : Int) (u v : Nat) (hu : u < 18446744073709551616) (hv : v < 18446744073709551616) (hp : pairB d u v = false) (w : World) :
    Calls Tryz.prog 20 #[.int .i64 d, .float .f64 u, .float .f64 v] w fun e w' => e = fRet2 none ∧ Below w.heap.size w w' := by
  have HP := Lib.hid (fun W => pair_calls d u v hu hv W)
  rw [hp] at HP
  clear hu hv hp
  go_enter Tryz.func20, Tryz.ntmps20
  go_wp2_with fail
  refine (HP.out _).mono ?_
  rintro e w' ⟨rfl, rfl⟩
  go_wp2
  go_ret2
  exact ⟨rfl, Below.refl _ _⟩
set_option maxHeartbeats 1000000 in
set_option maxRecDepth 100000 in
theorem rdiv_none2 (d : Int) (u v : Nat) (hu : u < 18446744073709551616) (hv : v < 18446744073709551616) (hp : pairB d u v = true) (h0 : (FloatKind.f64.format.order v 0 == some .eq) = true) (w : World) :
    Calls Tryz.prog 20 #[.int .i64 d, .float .f64 u, .float .f64 v] w fun e w' => e = fRet2 none ∧ Below w.heap.size w w' := by
  have HP := Lib.hid (fun W => pair_calls d u v hu hv W)
  rw [hp] at HP
  clear hu hv hp
  go_enter Tryz.func20, Tryz.ntmps20
  go_wp2_with fail
  refine (HP.out _).mono ?_
  rintro e w' ⟨rfl, rfl⟩
  go_wp2
  go_ret2
  exact ⟨rfl, Below.refl _ _⟩
theorem rv_ne {r : Nat} (h : r ≠ 0) : rv r ≠ 0 := by have := rv_pos h; omega
theorem rdiv_calls (d : Int) (u v : Nat) (hu : u < 18446744073709551616) (hv : v < 18446744073709551616) (w : World) :
    Calls Tryz.prog 20 #[.int .i64 d, .float .f64 u, .float .f64 v] w fun e w' => e = fRet2 (divS d u v) ∧ Below w.heap.size w w' := by
  rcases hp : pairB d u v with _ | _
  · rw [div_false1 hp]; exact rdiv_none1 d u v hu hv hp w
  · obtain ⟨fu, fv', hd1, hd2⟩ := pairB_true hp
    obtain ⟨ew, hr⟩ := word_of hu fu
    obtain ⟨ev, hs⟩ := word_of hv fv'
    have hvz := eq_zero_f (b := fneg v) (Nat.le_of_lt hs)
    rw [← ev] at hvz
    by_cases h0 : uabs v = 0
    · rw [div_false2 h0]
      rw [decide_eq_true h0] at hvz
      exact rdiv_none2 d u v hu hv hp hvz w
    · rw [decide_eq_false h0] at hvz
      have hvl := lt_zero_f (b := fneg v) (Nat.le_of_lt hs) h0
      rw [← ev] at hvl
      rw [div_true hp h0]
      have hfv := fv_word (neg := fneg v) hs
      rw [← ev] at hfv
      have hfu := fv_word (neg := fneg u) hr
      rw [← ew] at hfu
      by_cases hr0 : uabs u = 0
      · rw [if_pos hr0]
        have hq := div_zero_word (a := fneg u) (b := fneg v) hs h0
        rw [← ev] at hq
        rw [hr0] at ew hfu
        rw [← ew] at hq
        refine (rdiv_fin d u v 0 (fneg u != fneg v) (fneg v) hu hv hp hvz hvl hq (by decide) 0 ?_ w).mono ?_
        · rw [hfu, rv_zero, sg_zero, sg_zero, Int.zero_mul, Int.zero_mul, Int.zero_mul, Int.zero_mul, Int.sub_self]; rfl
        · rintro e w' ⟨rfl, hW⟩
          refine ⟨?_, hW⟩
          refine congrArg fRet2 ?_
          have e1 : (if fneg v = true then -(0 : Int) else 0) = 0 := by cases fneg v <;> rfl
          rw [e1]
          unfold sideS
          simp only [Int.lt_irrefl, and_false, if_false]
          rw [if_neg (by decide), sgnR_zero]
      · rw [if_neg hr0]
        have hq := div_word (a := fneg u) (b := fneg v) hr hs hr0 h0
        rw [← ev, ← ew] at hq
        have hsp := side_spec ⟨hd1, hd2⟩ (fneg u != fneg v) (restQ (rv (uabs u)) (rv (uabs v))) (hQ (rv (uabs u)) (rv (uabs v))) (eQ (rv (uabs u)) (rv (uabs v)))
        have hqs : qS d (fneg u != fneg v) (rv (uabs u)) (rv (uabs v)) = toldR d (fneg u != fneg v) (hQ (rv (uabs u)) (rv (uabs v))) (restQ (rv (uabs u)) (rv (uabs v))) (eQ (rv (uabs u)) (rv (uabs v))) := by rw [qS]
        rw [hqs, ← hsp]
        rcases Nat.lt_or_ge (r0R (hQ (rv (uabs u)) (rv (uabs v))) (restQ (rv (uabs u)) (rv (uabs v))) (eQ (rv (uabs u)) (rv (uabs v)))) INFR with hlt | hge
        · have hcmp := div_cmp (a := fneg u) (b := fneg v) (rq := nearR (hQ (rv (uabs u)) (rv (uabs v))) (restQ (rv (uabs u)) (rv (uabs v))) (eQ (rv (uabs u)) (rv (uabs v)))) (rv_ne hr0) (rv_ne h0) hlt rfl
          rw [← hcmp]
          refine rdiv_fin d u v _ (fneg u != fneg v) (fneg v) hu hv hp hvz hvl hq ?_ _ ?_ w
          · unfold nearR; rw [Nat.min_eq_left (Nat.le_of_lt hlt)]; exact hlt
          · rw [hfu, hfv]
        · have hn : nearR (hQ (rv (uabs u)) (rv (uabs v))) (restQ (rv (uabs u)) (rv (uabs v))) (eQ (rv (uabs u)) (rv (uabs v))) = INFR := by unfold nearR; exact Nat.min_eq_right hge
          have ha : accR (fneg u != fneg v) (hQ (rv (uabs u)) (rv (uabs v))) (restQ (rv (uabs u)) (rv (uabs v))) (eQ (rv (uabs u)) (rv (uabs v))) = if (fneg u != fneg v) then -1 else 1 := by unfold accR; rw [if_pos hge]
          rw [hn] at hq ⊢
          rw [ha]
          exact rdiv_inf d u v INFR (fneg u != fneg v) hu hv hp hvz hq ⟨hd1, hd2⟩ w
end Go.Proofs.YtikdhkmcdmnadaaGreatFmtBesafter
