import Derived.Test.YtikdhkmcdmnadaaGreatFmtKV7
import Derived.Test.YtikdhkmcdmnadaaGreatFmtKV4
set_option linter.unusedVariables false
set_option linter.unusedSimpArgs false
namespace Go.Proofs.YtikdhkmcdmnadaaGreatFmt
open Go.RowKit
attribute [local go_sem ↓] Go.wp_at_zero Go.wp_at_succ

/-! ### ambitlaw4.SpanMakes -/
set_option maxHeartbeats 4000000 in
set_option maxRecDepth 100000 in
theorem makes_walk (lo hi : Nat) (hl : lo < 18446744073709551616) (hh : hi < 18446744073709551616) (w : World) (hbad : BadC w) :
    Calls Tryz.prog 3 #[.float .f64 lo, .float .f64 hi] w fun e w' => e = .returned (.bool true) ∧ Below w.heap.size w w' := by
  have HT := Lib.hid (fun u W => apibits_calls u W)
  have HM := Lib.hid (fun W hb => make_calls lo hi hl hh W hb)
  have HP := Lib.hid (fun W hb => point_calls lo hl W hb)
  have HR1 := Lib.hid (fun W => rmake_calls lo hi hl hh W)
  have HR2 := Lib.hid (fun W => rmake_calls lo lo hl hl W)
  obtain ⟨s1, hs1⟩ : ∃ s, makeS lo hi = s := ⟨_, rfl⟩
  obtain ⟨s2, hs2⟩ : ∃ s, makeS lo lo = s := ⟨_, rfl⟩
  rw [hs1] at HM HR1
  rw [hs2] at HP HR2
  have HS1 := Lib.hid (fun W => lsame_calls s1 W)
  have HS2 := Lib.hid (fun W => lsame_calls s2 W)
  have HST := Lib.hid (fun W hb => started4_calls W hb)
  obtain ⟨l1, h1, b1⟩ := s1
  obtain ⟨l2, h2, b2⟩ := s2
  unfold spV at HM HP HS1 HS2
  unfold rpV at HR1 HR2 HS1 HS2
  have H0 := Lib.hid (And.intro hbad (Below.refl w.heap.size w))
  clear hl hh hs1 hs2 hbad
  go_enter Tryz.func3, Tryz.ntmps3
  go_wp2_with fail
  refine (HT.out lo _).mono ?_
  rintro e w' ⟨rfl, rfl⟩
  go_wp2_with fail
  refine (HT.out hi _).mono ?_
  rintro e w' ⟨rfl, rfl⟩
  go_wp2_with fail
  refine (HM.out _ H0.out.1).mono ?_
  rintro e w1 ⟨rfl, hW⟩
  have H1 := Lib.hid (And.intro (H0.out.1.keep hW) (below_next H0.out.2 hW))
  clear hW H0 HM HT
  go_wp2_with fail
  refine (HR1.out _).mono ?_
  rintro e w2 ⟨rfl, hW⟩
  have H2 := Lib.hid (And.intro (H1.out.1.keep hW) (below_next H1.out.2 hW))
  clear hW H1 HR1
  go_wp2_with fail
  refine (HS1.out _).mono ?_
  rintro e w3 ⟨rfl, hW⟩
  have H3 := Lib.hid (And.intro (H2.out.1.keep hW) (below_next H2.out.2 hW))
  clear hW H2 HS1
  go_wp2_with fail
  refine (HP.out _ H3.out.1).mono ?_
  rintro e w4 ⟨rfl, hW⟩
  have H4 := Lib.hid (And.intro (H3.out.1.keep hW) (below_next H3.out.2 hW))
  clear hW H3 HP
  go_wp2_with fail
  refine (HR2.out _).mono ?_
  rintro e w5 ⟨rfl, hW⟩
  have H5 := Lib.hid (And.intro (H4.out.1.keep hW) (below_next H4.out.2 hW))
  clear hW H4 HR2
  go_wp2_with fail
  refine (HS2.out _).mono ?_
  rintro e w6 ⟨rfl, hW⟩
  have H6 := Lib.hid (And.intro (H5.out.1.keep hW) (below_next H5.out.2 hW))
  clear hW H5 HS2
  go_wp2_with fail
  refine (HST.out _ H6.out.1).mono ?_
  rintro e w7 ⟨rfl, hW⟩
  have H7 := Lib.hid (below_next H6.out.2 hW)
  clear hW H6 HST
  go_wp2
  go_ret
  exact ⟨rfl, H7.out⟩
end Go.Proofs.YtikdhkmcdmnadaaGreatFmt
