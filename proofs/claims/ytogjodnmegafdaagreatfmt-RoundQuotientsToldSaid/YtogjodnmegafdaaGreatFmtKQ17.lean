import Derived.Test.YtogjodnmegafdaaGreatFmtKQ15
import Derived.Test.YtogjodnmegafdaaGreatFmtKQ17a
import Derived.Test.YtogjodnmegafdaaGreatFmtJ38
import Derived.Test.YtogjodnmegafdaaGreatFmtJ36
set_option linter.unusedVariables false
set_option linter.unusedSimpArgs false
namespace Go.Proofs.YtogjodnmegafdaaGreatFmt
open Go.RowKit
attribute [local go_sem ↓] Go.wp_at_zero Go.wp_at_succ

/-! ### ref2.Over of any two, Div; RoundQuotients -/
set_option maxHeartbeats 1000000 in
set_option maxRecDepth 100000 in
theorem over_out (d : Int) (hd : d < 0 ∨ 2 < d) (nx ny : Bool) (A1 A2 : Option Addr) (l1 l2 k1 k2 : Nat) (x1 x2 : Int) (w : World) :
    Calls Tryz.prog 84 #[.int .i64 d, .agg #[.bool nx, .slice A1 l1 k1, .int .i64 x1], .agg #[.bool ny, .slice A2 l2 k2, .int .i64 x2]] w fun r w' => r = optRet none ∧ Below w.heap.size w w' := by
  have HB := Lib.hid (two_boxes w nx ny A1 A2 l1 l2 k1 k2 x1 x2 rfl)
  rcases hd with hd | hd
  · go_enter Tryz.func84, Tryz.ntmps84
    go_wp2
    go_ret2
    exact ⟨rfl, HB.out.2.2⟩
  · have hd1 : ¬ d < 0 := by omega
    go_enter Tryz.func84, Tryz.ntmps84
    go_wp2
    go_ret2
    exact ⟨rfl, HB.out.2.2⟩
set_option maxHeartbeats 1000000 in
set_option maxRecDepth 100000 in
theorem over_nil (d : Int) (hd : 0 ≤ d ∧ d ≤ 2) (nx ny : Bool) (A1 A2 : Option Addr) (l1 k1 k2 : Nat) (x1 x2 : Int) (w : World) :
    Calls Tryz.prog 84 #[.int .i64 d, .agg #[.bool nx, .slice A1 l1 k1, .int .i64 x1], .agg #[.bool ny, .slice A2 0 k2, .int .i64 x2]] w fun r w' => r = optRet none ∧ Below w.heap.size w w' := by
  have HB := Lib.hid (two_boxes w nx ny A1 A2 l1 0 k1 k2 x1 x2 rfl)
  have hd1 : ¬ d < 0 := by omega
  have hd2 : ¬ 2 < d := by omega
  go_enter Tryz.func84, Tryz.ntmps84
  go_wp2
  go_ret2
  exact ⟨rfl, HB.out.2.2⟩
set_option maxHeartbeats 1000000 in
set_option maxRecDepth 100000 in
theorem over_nought (d : Int) (hd : 0 ≤ d ∧ d ≤ 2) (nx ny : Bool) (A1 A2 : Option Addr) (l2 k1 k2 : Nat) (x1 x2 : Int) (w : World) (hl : l2 ≠ 0) :
    Calls Tryz.prog 84 #[.int .i64 d, .agg #[.bool nx, .slice A1 0 k1, .int .i64 x1], .agg #[.bool ny, .slice A2 l2 k2, .int .i64 x2]] w fun r w' => r = optRet (some 0) ∧ Below w.heap.size w w' := by
  have HB := Lib.hid (two_boxes w nx ny A1 A2 0 l2 k1 k2 x1 x2 rfl)
  have hd1 : ¬ d < 0 := by omega
  have hd2 : ¬ 2 < d := by omega
  have hn : ((l2 : Int) == 0) = false := by simp; exact hl
  go_enter Tryz.func84, Tryz.ntmps84
  go_wp2
  go_ret2
  exact ⟨rfl, HB.out.2.2⟩
/-- of two numbers of float64 -/
theorem over_calls (d : Int) (u v base : Nat) (hu : u < 18446744073709551616) (hv : v < 18446744073709551616) (fu : fin u = true) (fv' : fin v = true) (nx ny : Bool) (A1 A2 : Option Addr) (l1 l2 k1 k2 : Nat) (x1 x2 : Int) (w : World) (hb : base ≤ w.heap.size) (hx : NumC 1074 w base (numV u) nx A1 l1 k1 x1) (hy : NumC 1074 w base (numV v) ny A2 l2 k2 x2) :
    Calls Tryz.prog 84 #[.int .i64 d, .agg #[.bool nx, .slice A1 l1 k1, .int .i64 x1], .agg #[.bool ny, .slice A2 l2 k2, .int .i64 x2]] w fun r w' => r = optRet (divS d u v) ∧ Below w.heap.size w w' := by
  have eu : numV u = fv u := by unfold numV; rw [fu, if_pos rfl]
  have ev : numV v = fv v := by unfold numV; rw [fv', if_pos rfl]
  have gu := fv_zero_iff hu fu
  have gv := fv_zero_iff hv fv'
  by_cases hd : 0 ≤ d ∧ d ≤ 2
  · have hp : pairB d u v = true := by unfold pairB; rw [fu, fv', decide_eq_true hd]; rfl
    by_cases hv0 : uabs v = 0
    · have hz : numV v = 0 := by rw [ev, gv, hv0, rv_zero]; cases fneg v <;> rfl
      have hl : l2 = 0 := hy.len0.2 hz
      subst hl
      rw [div_false2 hv0]
      exact over_nil d hd nx ny A1 A2 l1 k1 k2 x1 x2 w
    · have hvn : numV v ≠ 0 := by
        rw [ev, gv]
        have := rv_pos hv0
        intro h
        have h2 := congrArg Int.natAbs h
        rw [sg_abs] at h2
        simp at h2
        omega
      by_cases hu0 : uabs u = 0
      · have hz : numV u = 0 := by rw [eu, gu, hu0, rv_zero]; cases fneg u <;> rfl
        have hl : l1 = 0 := hx.len0.2 hz
        subst hl
        rw [div_true hp hv0, if_pos hu0]
        exact over_nought d hd nx ny A1 A2 l2 k1 k2 x1 x2 w (fun h => hvn (hy.len0.1 h))
      · have hun : numV u ≠ 0 := by
          rw [eu, gu]
          have := rv_pos hu0
          intro h
          have h2 := congrArg Int.natAbs h
          rw [sg_abs] at h2
          simp at h2
          omega
        have h := over_good d hd (numV u) (numV v) nx ny A1 A2 l1 l2 k1 k2 x1 x2 w base hb hx hy hun hvn (numV_bd hu) (numV_bd hv)
        have nx' : nx = fneg u := by rw [hx.sign hun, eu, gu]; exact sgR_lt (rv_pos hu0)
        have ny' : ny = fneg v := by rw [hy.sign hvn, ev, gv]; exact sgR_lt (rv_pos hv0)
        have au : (numV u).natAbs = rv (uabs u) := by rw [eu, gu, sg_abs]
        have av : (numV v).natAbs = rv (uabs v) := by rw [ev, gv, sg_abs]
        rw [au, av, nx', ny'] at h
        rw [div_true hp hv0, if_neg hu0, qS]
        rw [← nx', ← ny'] at h ⊢
        exact h
  · have hp : pairB d u v = false := by unfold pairB; rw [decide_eq_false hd, Bool.and_false]
    rw [div_false1 hp]
    exact over_out d (by omega) nx ny A1 A2 l1 l2 k1 k2 x1 x2 w
set_option maxHeartbeats 1000000 in
set_option maxRecDepth 100000 in
theorem div2_calls (d : Int) (u v : Nat) (hu : u < 18446744073709551616) (hv : v < 18446744073709551616) (w : World) :
    Calls Tryz.prog 54 #[.int .i64 d, .int .u64 u, .int .u64 v] w fun r w' => r = optRet (divS d u v) ∧ Below w.heap.size w w' := by
  have HT := Lib.hid (two_calls u v hu hv w)
  rcases hf : (fin u && fin v) with _ | _
  · have hp : pairB d u v = false := by unfold pairB; rw [hf]; rfl
    rw [hf] at HT
    rw [div_false1 hp]
    clear hu hv hf hp
    go_enter Tryz.func54, Tryz.ntmps54
    go_wp2_with fail
    refine HT.out.mono ?_
    rintro e w1 ⟨n1, n2, A1, A2, l1, l2, c1, c2, x1, x2, rfl, hX, hY, hW⟩
    have H1 := Lib.hid (below_next hW (below_new (below_new (Below.refl w1.heap.size w1) (.cells #[.bool n1, .slice A1 l1 c1, .int .i64 x1] 25)) (.cells #[.bool n2, .slice A2 l2 c2, .int .i64 x2] 25)))
    clear hX hY hW HT
    go_wp2
    go_ret2
    exact ⟨rfl, by first | exact H1.out | exact Below.drew H1.out⟩
  · have f1 : fin u = true := by simp at hf; exact hf.1
    have f2 : fin v = true := by simp at hf; exact hf.2
    rw [hf] at HT
    have HO := Lib.hid (fun (W : World) base n1 n2 A1 A2 l1 l2 c1 c2 x1 x2 (hb : base ≤ W.heap.size) (hx : NumC 1074 W base (numV u) n1 A1 l1 c1 x1) (hy : NumC 1074 W base (numV v) n2 A2 l2 c2 x2) => over_calls d u v base hu hv f1 f2 n1 n2 A1 A2 l1 l2 c1 c2 x1 x2 W hb hx hy)
    obtain ⟨o, ho⟩ : ∃ o, divS d u v = o := ⟨_, rfl⟩
    rw [ho] at HO ⊢
    clear hu hv hf f1 f2 ho
    go_enter Tryz.func54, Tryz.ntmps54
    go_wp2_with fail
    refine HT.out.mono ?_
    rintro e w1 ⟨n1, n2, A1, A2, l1, l2, c1, c2, x1, x2, rfl, hX, hY, hW⟩
    have hB := below_new (below_new (Below.refl w1.heap.size w1) (.cells #[.bool n1, .slice A1 l1 c1, .int .i64 x1] 25)) (.cells #[.bool n2, .slice A2 l2 c2, .int .i64 x2] 25)
    have H1 := Lib.hid (And.intro (hX.below hB) (And.intro (hY.below hB) (below_next hW hB)))
    clear hX hY hW HT hB
    go_wp2_with fail
    refine (HO.out _ w.heap.size n1 n2 A1 A2 l1 l2 c1 c2 x1 x2 H1.out.2.2.size H1.out.1 H1.out.2.1).mono ?_
    rintro e w2 ⟨rfl, hW⟩
    have H2 := Lib.hid (below_next H1.out.2.2 hW)
    clear hW
    unfold optRet
    go_wp2
    go_ret2
    exact ⟨rfl, H2.out⟩
set_option maxHeartbeats 1000000 in
set_option maxRecDepth 100000 in
theorem one4_calls (d : Int) (u v : Nat) (hu : u < 18446744073709551616) (hv : v < 18446744073709551616) (w : World) :
    Calls Tryz.prog 29 #[.int .i64 4, .int .i64 d, .float .f64 u, .float .f64 v, .int .i64 0] w fun e w' => e = .returned (.bool true) ∧ Below w.heap.size w w' := by
  have HB1 := Lib.hid (fun W => apibits_calls u W)
  have HB2 := Lib.hid (fun W => apibits_calls v W)
  have HN := Lib.hid (fun W => rdiv_calls d u v hu hv W)
  have HR := Lib.hid (fun W => div2_calls d u v hu hv W)
  obtain ⟨o, ho⟩ : ∃ o, divS d u v = o := ⟨_, rfl⟩
  rw [ho] at HN HR
  obtain ⟨a, ha⟩ : ∃ a, o.getD 0 = a := ⟨_, rfl⟩
  obtain ⟨b, hb⟩ : ∃ a, o.isSome = a := ⟨_, rfl⟩
  unfold fRet2 at HN
  unfold optRet at HR
  rw [ha, hb] at HN HR
  have HS := Lib.hid (fun W => same_calls a b W)
  clear ho ha hb hu hv
  go_enter Tryz.func29, Tryz.ntmps29
  go_wp2_with fail
  refine (HB1.out _).mono ?_
  rintro e w' ⟨rfl, rfl⟩
  go_wp2_with fail
  refine (HB2.out _).mono ?_
  rintro e w' ⟨rfl, rfl⟩
  go_wp2_with fail
  refine (HN.out _).mono ?_
  rintro e w0 ⟨rfl, hW⟩
  have H0 := Lib.hid hW
  clear hW
  go_wp2_with fail
  refine (HR.out _).mono ?_
  rintro e w1 ⟨rfl, hW⟩
  have H1 := Lib.hid (below_next H0.out hW)
  clear hW
  go_wp2_with fail
  refine (HS.out _).mono ?_
  rintro e w' ⟨rfl, rfl⟩
  go_wp2
  go_ret
  exact ⟨rfl, H1.out⟩
set_option maxHeartbeats 1000000 in
set_option maxRecDepth 100000 in
theorem quot_walk (d : Int) (u v : Nat) (hu : u < 18446744073709551616) (hv : v < 18446744073709551616) (w : World) :
    Calls Tryz.prog 8 #[.int .i64 d, .float .f64 u, .float .f64 v] w fun e w' => e = .returned (.bool true) ∧ Below w.heap.size w w' := by
  have HO1 := Lib.hid (fun W => one4_calls d u v hu hv W)
  clear hu hv
  go_enter Tryz.func8, Tryz.ntmps8
  go_wp2_with fail
  refine (HO1.out _).mono ?_
  rintro e w1 ⟨rfl, hW⟩
  have H1 := Lib.hid hW
  clear hW
  go_wp2_with fail
  refine (started_calls _).mono ?_
  rintro e w4 ⟨rfl, hW⟩
  have H4 := Lib.hid (below_next H1.out hW)
  clear hW
  go_wp2
  go_ret
  exact ⟨rfl, H4.out⟩
end Go.Proofs.YtogjodnmegafdaaGreatFmt
