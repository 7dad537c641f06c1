/- Walks and plain laws of this seat's functions, part 40: Q9. -/
import Derived.Test.YtogjodnmegafdaaGreatFmtJ37
import Derived.Test.YtogjodnmegafdaaGreatFmtJ38
import Derived.Test.YtogjodnmegafdaaGreatFmtJ39
set_option linter.unusedVariables false
set_option linter.unusedSimpArgs false
namespace Go.Proofs.YtogjodnmegafdaaGreatFmt
open Go.RowKit
attribute [local go_sem ↓] Go.wp_at_zero Go.wp_at_succ

/-! ### RoundBack -/
theorem bne_f {a b : Option Ordering} (h : (a == b) = true) : (a != b) = false := by simp [bne, h]
theorem bne_t {a b : Option Ordering} (h : (a == b) = false) : (a != b) = true := by simp [bne, h]
theorem ord_beq' {x y : Nat} (h : Ieee.double.order x y = some .eq) : (FloatKind.f64.format.order x y == some .eq) = true := by
  have h' : FloatKind.f64.format.order x y = some .eq := h
  rw [h']; rfl
theorem sgn_eq_zero {u : Nat} (hu : u < 18446744073709551616) (hf : fin u = true) : (FloatKind.f64.format.order (sgnR (fneg u) (uabs u)) u == some .eq) = true := ord_beq' (word_eq_sgn hu hf)
set_option maxHeartbeats 1000000 in
set_option maxRecDepth 100000 in
theorem back_walk (u : Nat) (n d : Int) (hu : u < 18446744073709551616) (hn : -9223372036854775808 ≤ n ∧ n ≤ 9223372036854775807) (w : World) :
    Calls Tryz.prog 6 #[.float .f64 u, .int .i64 n, .int .i64 d] w fun e w' => e = .returned (.bool true) ∧ Below w.heap.size w w' := by
  have HP := Lib.hid (fun W => rscale_calls 1 u n hu W)
  have HQ := Lib.hid (fun W => rscale_calls 2 u n hu W)
  have HZ := Lib.hid (fun W => rscale_calls d u 0 hu W)
  have HNU := Lib.hid (fun W => number?_calls u (fin u) W hu rfl)
  rw [scale_nought hu, pair_num] at HZ
  have HSE : fin u = true → (FloatKind.f64.format.order (sgnR (fneg u) (uabs u)) u == some .eq) = true := fun h => sgn_eq_zero hu h
  obtain ⟨o1, h1⟩ : ∃ o, scaleS 4000 1 u n = o := ⟨_, rfl⟩
  obtain ⟨o2, h2⟩ : ∃ o, scaleS 4000 2 u n = o := ⟨_, rfl⟩
  have HBK : Hid (∀ p q, o1 = some p → o2 = some q → (FloatKind.f64.format.order p q == some .eq) = true → (-5000 ≤ n ∧ n ≤ 5000) → p < 18446744073709551616 ∧ ∃ b, scaleS 4000 0 p (-n) = some b ∧ (FloatKind.f64.format.order b u == some .eq) = true) := by
    intro p q e1 e2 he hr
    have he' : Ieee.double.order p q = some .eq := by
      have : (Ieee.double.order p q == some .eq) = true := he
      simpa using this
    obtain ⟨a, b, c, e⟩ := back_law hu (h1.trans e1) (h2.trans e2) he' hr
    exact ⟨a, b, c, ord_beq' e⟩
  rw [h1] at HP
  rw [h2] at HQ
  obtain ⟨f, hf⟩ : ∃ f, fin u = f := ⟨_, rfl⟩
  rw [hf] at HZ HNU HSE
  obtain ⟨s, hs⟩ : ∃ s, sgnR (fneg u) (uabs u) = s := ⟨_, rfl⟩
  rw [hs] at HZ HSE
  obtain ⟨z, hz⟩ : ∃ z, (if (f && decide (0 ≤ d ∧ d ≤ 2)) = true then some s else none).getD 0 = z := ⟨_, rfl⟩
  obtain ⟨bz, hbz⟩ : ∃ b, (if (f && decide (0 ≤ d ∧ d ≤ 2)) = true then some s else none).isSome = b := ⟨_, rfl⟩
  have HBZ : Hid (bz = (f && decide (0 ≤ d ∧ d ≤ 2))) := by
    rw [Hid, ← hbz]; cases (f && decide (0 ≤ d ∧ d ≤ 2)) <;> rfl
  have HZU : Hid (bz = true → (FloatKind.f64.format.order z u == some .eq) = true) := by
    intro h
    rw [HBZ.out] at h
    rw [← hz, h, if_pos rfl]
    exact HSE (by simp only [Bool.and_eq_true] at h; exact h.1)
  have HZ' := Lib.hid HZ.out
  unfold fRet2 at HZ'
  rw [hz, hbz] at HZ'
  clear h1 h2 hu hf hs HSE HZ hz hbz
  go_enter Tryz.func6, Tryz.ntmps6
  go_wp2_with fail
  refine (HP.out _).mono ?_
  rintro e w1 ⟨rfl, hW⟩
  have H1 := Lib.hid hW
  clear hW
  unfold fRet2
  go_wp2_with fail
  refine (HQ.out _).mono ?_
  rintro e w2 ⟨rfl, hW⟩
  have H2 := Lib.hid (below_next H1.out hW)
  clear hW H1
  unfold fRet2
  go_wp2_with fail
  refine (HZ'.out _).mono ?_
  rintro e w3 ⟨rfl, hW⟩
  have H3 := Lib.hid (below_next H2.out hW)
  clear hW H2
  clear HP HQ HZ'
  go_upto_region 4 with fail
  go_cut [52] (fun s wx => s = .bool false ∧ wx = w3)
  case first =>
    by_cases hd0 : 0 ≤ d
    · by_cases hd2 : d ≤ 2
      · cases f
        · obtain rfl : bz = false := HBZ.out
          go_wp2_with fail
          refine (HNU.out _).mono ?_
          rintro e w' ⟨rfl, rfl⟩
          go_wp2_with fail
          go_meet
          exact ⟨rfl, rfl⟩
        · obtain rfl : bz = true := by rw [HBZ.out, decide_eq_true ⟨hd0, hd2⟩]; rfl
          have hse := HZU.out rfl
          have hse2 := bne_f hse
          go_wp2_with fail
          refine (HNU.out _).mono ?_
          rintro e w' ⟨rfl, rfl⟩
          go_wp2_with fail
          go_meet
          exact ⟨rfl, rfl⟩
      · obtain rfl : bz = false := by rw [HBZ.out, decide_eq_false (fun h => hd2 h.2), Bool.and_false]
        go_wp2_with fail
        go_meet
        exact ⟨rfl, rfl⟩
    · obtain rfl : bz = false := by rw [HBZ.out, decide_eq_false (fun h => hd0 h.1), Bool.and_false]
      go_wp2_with fail
      go_meet
      exact ⟨rfl, rfl⟩
  case rest =>
    obtain ⟨rfl, rfl⟩ := hcut
    clear HNU HZU HBZ
    rcases o1 with _ | p
    · simp only [Option.getD_none, Option.isSome_none]
      go_wp2_with fail
      refine (started_calls _).mono ?_
      rintro e w6 ⟨rfl, hW⟩
      have H6 := Lib.hid (below_next H3.out hW)
      clear hW
      go_wp2
      go_ret
      exact ⟨rfl, H6.out⟩
    · rcases o2 with _ | q
      · simp only [Option.getD_none, Option.isSome_none, Option.getD_some, Option.isSome_some]
        go_wp2_with fail
        refine (started_calls _).mono ?_
        rintro e w6 ⟨rfl, hW⟩
        have H6 := Lib.hid (below_next H3.out hW)
        clear hW
        go_wp2
        go_ret
        exact ⟨rfl, H6.out⟩
      · simp only [Option.getD_some, Option.isSome_some]
        rcases he : (FloatKind.f64.format.order p q == some .eq) with _ | _
        · have he2 := bne_t he
          go_wp2_with fail
          refine (started_calls _).mono ?_
          rintro e w6 ⟨rfl, hW⟩
          have H6 := Lib.hid (below_next H3.out hW)
          clear hW
          go_wp2
          go_ret
          exact ⟨rfl, H6.out⟩
        · have he2 := bne_f he
          by_cases h5 : n < -5000
          · go_wp2_with fail
            refine (started_calls _).mono ?_
            rintro e w6 ⟨rfl, hW⟩
            have H6 := Lib.hid (below_next H3.out hW)
            clear hW
            go_wp2
            go_ret
            exact ⟨rfl, H6.out⟩
          · by_cases h6 : 5000 < n
            · go_wp2_with fail
              refine (started_calls _).mono ?_
              rintro e w6 ⟨rfl, hW⟩
              have H6 := Lib.hid (below_next H3.out hW)
              clear hW
              go_wp2
              go_ret
              exact ⟨rfl, H6.out⟩
            · obtain ⟨hp, b, hb, hbu⟩ := HBK.out p q rfl rfl he ⟨by omega, by omega⟩
              have hneg : IntKind.i64.wrap (-n) = -n := IntWalk.i64_in _ (by omega)
              have HS := Lib.hid (fun W => rscale_calls 0 p (-n) hp W)
              rw [hb] at HS
              clear hb hp hn
              go_wp2_with fail
              refine (HS.out _).mono ?_
              rintro e w5 ⟨rfl, hW⟩
              have H5 := Lib.hid (below_next H3.out hW)
              clear hW
              unfold fRet2
              simp only [Option.getD_some, Option.isSome_some]
              go_wp2_with fail
              refine (started_calls _).mono ?_
              rintro e w6 ⟨rfl, hW⟩
              have H6 := Lib.hid (below_next H5.out hW)
              clear hW
              go_wp2
              go_ret
              exact ⟨rfl, H6.out⟩
end Go.Proofs.YtogjodnmegafdaaGreatFmt
