import Derived.Test.YtfgdmiigmcnmpaaGreatFmtKQ20
import Derived.Test.YtfgdmiigmcnmpaaGreatFmtJ36
set_option linter.unusedVariables false
set_option linter.unusedSimpArgs false
namespace Go.Proofs.YtfgdmiigmcnmpaaGreatFmt
open Go.RowKit
attribute [local go_sem ↓] Go.wp_at_zero Go.wp_at_succ

/-! ### RoundSums, RoundProducts -/
set_option maxHeartbeats 1000000 in
set_option maxRecDepth 100000 in
theorem sums_walk (d : Int) (u v : Nat) (hu : u < 18446744073709551616) (hv : v < 18446744073709551616) (w : World) :
    Calls Tryz.prog 6 #[.int .i64 d, .float .f64 u, .float .f64 v] w fun e w' => e = .returned (.bool true) ∧ Below w.heap.size w w' := by
  have HB1 := Lib.hid (fun W => apibits_calls u W)
  have HB2 := Lib.hid (fun W => apibits_calls v W)
  have HP := Lib.hid (fun W => rsum2_calls u v hu hv W)
  have HR := Lib.hid (fun W => sum22_calls u v hu hv W)
  have HO1 := Lib.hid (fun W => one1_calls d u v 0 hu hv W)
  have HO2 := Lib.hid (fun W => one2_calls d u v 0 hu hv W)
  obtain ⟨o, ho⟩ : ∃ o, partS 1 u v = o := ⟨_, rfl⟩
  rw [ho] at HP HR
  obtain ⟨s, hs⟩ : ∃ a, (o.getD (0, 0)).1 = a := ⟨_, rfl⟩
  obtain ⟨x, hx⟩ : ∃ a, (o.getD (0, 0)).2 = a := ⟨_, rfl⟩
  obtain ⟨b, hb⟩ : ∃ a, o.isSome = a := ⟨_, rfl⟩
  unfold fRet3 at HP
  unfold optRet3 at HR
  rw [hs, hx, hb] at HP HR
  have HS := Lib.hid (fun W => same_calls s b W)
  have HB3 := Lib.hid (fun W => apibits_calls x W)
  clear ho hs hx hb hu hv
  go_enter Tryz.func6, Tryz.ntmps6
  go_wp2_with fail
  refine (HP.out _).mono ?_
  rintro e w0 ⟨rfl, hW⟩
  have H0 := Lib.hid hW
  clear hW
  go_wp2_with fail
  refine (HB1.out _).mono ?_
  rintro e w' ⟨rfl, rfl⟩
  go_wp2_with fail
  refine (HB2.out _).mono ?_
  rintro e w' ⟨rfl, rfl⟩
  go_wp2_with fail
  refine (HR.out _).mono ?_
  rintro e w1 ⟨rfl, hW⟩
  have H1 := Lib.hid (below_next H0.out hW)
  clear hW
  go_wp2_with fail
  refine (HO1.out _).mono ?_
  rintro e w2 ⟨rfl, hW⟩
  have H2 := Lib.hid (below_next H1.out hW)
  clear hW
  go_wp2_with fail
  refine (HO2.out _).mono ?_
  rintro e w3 ⟨rfl, hW⟩
  have H3 := Lib.hid (below_next H2.out hW)
  clear hW
  go_wp2_with fail
  refine (HS.out _).mono ?_
  rintro e w' ⟨rfl, rfl⟩
  go_wp2_with fail
  refine (HB3.out _).mono ?_
  rintro e w' ⟨rfl, rfl⟩
  go_wp2_with fail
  refine (started_calls _).mono ?_
  rintro e w9 ⟨rfl, hW⟩
  have H9 := Lib.hid (below_next H3.out hW)
  clear hW
  go_wp2
  go_ret
  exact ⟨rfl, H9.out⟩
set_option maxHeartbeats 1000000 in
set_option maxRecDepth 100000 in
theorem products_walk (d : Int) (u v : Nat) (hu : u < 18446744073709551616) (hv : v < 18446744073709551616) (w : World) :
    Calls Tryz.prog 7 #[.int .i64 d, .float .f64 u, .float .f64 v] w fun e w' => e = .returned (.bool true) ∧ Below w.heap.size w w' := by
  have HB1 := Lib.hid (fun W => apibits_calls u W)
  have HB2 := Lib.hid (fun W => apibits_calls v W)
  have HP := Lib.hid (fun W => rprod2_calls u v hu hv W)
  have HR := Lib.hid (fun W => prod22_calls u v hu hv W)
  have HO3 := Lib.hid (fun W => one3_calls d u v 0 hu hv W)
  obtain ⟨o, ho⟩ : ∃ o, partS 3 u v = o := ⟨_, rfl⟩
  rw [ho] at HP HR
  obtain ⟨s, hs⟩ : ∃ a, (o.getD (0, 0)).1 = a := ⟨_, rfl⟩
  obtain ⟨x, hx⟩ : ∃ a, (o.getD (0, 0)).2 = a := ⟨_, rfl⟩
  obtain ⟨b, hb⟩ : ∃ a, o.isSome = a := ⟨_, rfl⟩
  unfold fRet3 at HP
  unfold optRet3 at HR
  rw [hs, hx, hb] at HP HR
  have HS := Lib.hid (fun W => same_calls s b W)
  have HB3 := Lib.hid (fun W => apibits_calls x W)
  clear ho hs hx hb hu hv
  go_enter Tryz.func7, Tryz.ntmps7
  go_wp2_with fail
  refine (HP.out _).mono ?_
  rintro e w0 ⟨rfl, hW⟩
  have H0 := Lib.hid hW
  clear hW
  go_wp2_with fail
  refine (HB1.out _).mono ?_
  rintro e w' ⟨rfl, rfl⟩
  go_wp2_with fail
  refine (HB2.out _).mono ?_
  rintro e w' ⟨rfl, rfl⟩
  go_wp2_with fail
  refine (HR.out _).mono ?_
  rintro e w1 ⟨rfl, hW⟩
  have H1 := Lib.hid (below_next H0.out hW)
  clear hW
  go_wp2_with fail
  refine (HO3.out _).mono ?_
  rintro e w2 ⟨rfl, hW⟩
  have H2 := Lib.hid (below_next H1.out hW)
  clear hW
  go_wp2_with fail
  refine (HS.out _).mono ?_
  rintro e w' ⟨rfl, rfl⟩
  go_wp2_with fail
  refine (HB3.out _).mono ?_
  rintro e w' ⟨rfl, rfl⟩
  go_wp2_with fail
  refine (started_calls _).mono ?_
  rintro e w9 ⟨rfl, hW⟩
  have H9 := Lib.hid (below_next H2.out hW)
  clear hW
  go_wp2
  go_ret
  exact ⟨rfl, H9.out⟩
end Go.Proofs.YtfgdmiigmcnmpaaGreatFmt
