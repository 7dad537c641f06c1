import Derived.Test.YtfgdmiigmcnmpaaGreatFmtJ36
import Derived.Test.YtfgdmiigmcnmpaaGreatFmtJ34
set_option linter.unusedVariables false
set_option linter.unusedSimpArgs false
namespace Go.Proofs.YtfgdmiigmcnmpaaGreatFmt
open Go.RowKit
attribute [local go_sem ↓] Go.wp_at_zero Go.wp_at_succ

/-! ### RoundPlays: every call of law2.one -/
set_option maxHeartbeats 1000000 in
set_option maxRecDepth 100000 in
theorem one0g_calls (d : Int) (u v : Nat) (n : Int) (hu : u < 18446744073709551616) (hv : v < 18446744073709551616) (w : World) :
    Calls Tryz.prog 15 #[.int .i64 0, .int .i64 d, .float .f64 u, .float .f64 v, .int .i64 n] w fun e w' => e = .returned (.bool true) ∧ Below w.heap.size w w' := by
  have HB1 := Lib.hid (fun W => apibits_calls u W)
  have HB2 := Lib.hid (fun W => apibits_calls v W)
  have HN := Lib.hid (fun W => rnext_calls d u hu W)
  have HR := Lib.hid (fun W => next2_calls d u hu W)
  obtain ⟨o, ho⟩ : ∃ o, nextS d u = o := ⟨_, rfl⟩
  rw [ho] at HN HR
  obtain ⟨a, ha⟩ : ∃ a, o.getD 0 = a := ⟨_, rfl⟩
  obtain ⟨b, hb⟩ : ∃ a, o.isSome = a := ⟨_, rfl⟩
  unfold fRet2 at HN
  unfold optRet at HR
  rw [ha, hb] at HN HR
  have HS := Lib.hid (fun W => same_calls a b W)
  clear ho ha hb hu hv
  go_enter Tryz.func15, Tryz.ntmps15
  go_wp2_with fail
  refine (HB1.out _).mono ?_
  rintro e w' ⟨rfl, rfl⟩
  go_wp2_with fail
  refine (HB2.out _).mono ?_
  rintro e w' ⟨rfl, rfl⟩
  go_wp2_with fail
  refine (HN.out _).mono ?_
  rintro e w' ⟨rfl, rfl⟩
  have H0 := Lib.hid (Below.refl w.heap.size w)
  go_wp2_with fail
  refine (HR.out _).mono ?_
  rintro e w1 ⟨rfl, hW⟩
  have H1 := Lib.hid (below_next H0.out hW)
  clear hW
  go_wp2_with fail
  refine (HS.out _).mono ?_
  rintro e w' ⟨rfl, rfl⟩
  go_wp2
  go_ret
  exact ⟨rfl, H1.out⟩
set_option maxHeartbeats 1000000 in
set_option maxRecDepth 100000 in
theorem one4g_calls (d : Int) (u v : Nat) (n : Int) (hu : u < 18446744073709551616) (hv : v < 18446744073709551616) (w : World) :
    Calls Tryz.prog 15 #[.int .i64 4, .int .i64 d, .float .f64 u, .float .f64 v, .int .i64 n] w fun e w' => e = .returned (.bool true) ∧ Below w.heap.size w w' := by
  have HB1 := Lib.hid (fun W => apibits_calls u W)
  have HB2 := Lib.hid (fun W => apibits_calls v W)
  have HN := Lib.hid (fun W => rdiv_calls d u v hu hv W)
  have HR := Lib.hid (fun W => div2_calls d u v hu hv W)
  obtain ⟨o, ho⟩ : ∃ o, divS d u v = o := ⟨_, rfl⟩
  rw [ho] at HN HR
  obtain ⟨a, ha⟩ : ∃ a, o.getD 0 = a := ⟨_, rfl⟩
  obtain ⟨b, hb⟩ : ∃ a, o.isSome = a := ⟨_, rfl⟩
  unfold fRet2 at HN
  unfold optRet at HR
  rw [ha, hb] at HN HR
  have HS := Lib.hid (fun W => same_calls a b W)
  clear ho ha hb hu hv
  go_enter Tryz.func15, Tryz.ntmps15
  go_wp2_with fail
  refine (HB1.out _).mono ?_
  rintro e w' ⟨rfl, rfl⟩
  go_wp2_with fail
  refine (HB2.out _).mono ?_
  rintro e w' ⟨rfl, rfl⟩
  go_wp2_with fail
  refine (HN.out _).mono ?_
  rintro e w0 ⟨rfl, hW⟩
  have H0 := Lib.hid hW
  clear hW
  go_wp2_with fail
  refine (HR.out _).mono ?_
  rintro e w1 ⟨rfl, hW⟩
  have H1 := Lib.hid (below_next H0.out hW)
  clear hW
  go_wp2_with fail
  refine (HS.out _).mono ?_
  rintro e w' ⟨rfl, rfl⟩
  go_wp2
  go_ret
  exact ⟨rfl, H1.out⟩
set_option maxHeartbeats 1000000 in
set_option maxRecDepth 100000 in
theorem one5g_calls (c : Int) (k0 : (c == 0) = false) (k1 : (c == 1) = false) (k2 : (c == 2) = false) (k3 : (c == 3) = false) (k4 : (c == 4) = false) (d : Int) (u v : Nat) (n : Int) (hu : u < 18446744073709551616) (hv : v < 18446744073709551616) (w : World) :
    Calls Tryz.prog 15 #[.int .i64 c, .int .i64 d, .float .f64 u, .float .f64 v, .int .i64 n] w fun e w' => e = .returned (.bool true) ∧ Below w.heap.size w w' := by
  have HB1 := Lib.hid (fun W => apibits_calls u W)
  have HB2 := Lib.hid (fun W => apibits_calls v W)
  have HN := Lib.hid (fun W => rscale_calls d u n hu W)
  have HR := Lib.hid (fun W => scale2_calls d u n hu W)
  rw [← scale_same d n hu] at HR
  obtain ⟨o, ho⟩ : ∃ o, scaleS 4000 d u n = o := ⟨_, rfl⟩
  rw [ho] at HN HR
  obtain ⟨a, ha⟩ : ∃ a, o.getD 0 = a := ⟨_, rfl⟩
  obtain ⟨b, hb⟩ : ∃ a, o.isSome = a := ⟨_, rfl⟩
  unfold fRet2 at HN
  unfold optRet at HR
  rw [ha, hb] at HN HR
  have HS := Lib.hid (fun W => same_calls a b W)
  clear ho ha hb hu hv
  go_enter Tryz.func15, Tryz.ntmps15
  go_wp2_with fail
  refine (HB1.out _).mono ?_
  rintro e w' ⟨rfl, rfl⟩
  go_wp2_with fail
  refine (HB2.out _).mono ?_
  rintro e w' ⟨rfl, rfl⟩
  go_wp2_with fail
  refine (HN.out _).mono ?_
  rintro e w0 ⟨rfl, hW⟩
  have H0 := Lib.hid hW
  clear hW
  go_wp2_with fail
  refine (HR.out _).mono ?_
  rintro e w1 ⟨rfl, hW⟩
  have H1 := Lib.hid (below_next H0.out hW)
  clear hW
  go_wp2_with fail
  refine (HS.out _).mono ?_
  rintro e w' ⟨rfl, rfl⟩
  go_wp2
  go_ret
  exact ⟨rfl, H1.out⟩
theorem one_calls (c d : Int) (u v : Nat) (n : Int) (hu : u < 18446744073709551616) (hv : v < 18446744073709551616) (w : World) :
    Calls Tryz.prog 15 #[.int .i64 c, .int .i64 d, .float .f64 u, .float .f64 v, .int .i64 n] w fun e w' => e = .returned (.bool true) ∧ Below w.heap.size w w' := by
  by_cases h0 : c = 0
  · subst h0; exact one0g_calls d u v n hu hv w
  by_cases h1 : c = 1
  · subst h1; exact one1_calls d u v n hu hv w
  by_cases h2 : c = 2
  · subst h2; exact one2_calls d u v n hu hv w
  by_cases h3 : c = 3
  · subst h3; exact one3_calls d u v n hu hv w
  by_cases h4 : c = 4
  · subst h4; exact one4g_calls d u v n hu hv w
  have k : ∀ x : Int, c ≠ x → (c == x) = false := fun x h => by simpa using h
  exact one5g_calls c (k 0 h0) (k 1 h1) (k 2 h2) (k 3 h3) (k 4 h4) d u v n hu hv w
@[local go_sem] theorem store_flt (P : Program) (w : World) (a : Addr) (m : Mode) (k : FloatKind) (b : Nat) : (store a (.float k b) m).run P w = stored P w a (.float k b) m := run_store P w a _ m rfl
/-- one call of the script, as it lies in memory -/
def OpAt (w : World) (A : Option Addr) (k : Nat) : Prop := ∃ (a : Addr) (c d n : Int) (u v : Nat), A = some a ∧ (u < 18446744073709551616 ∧ v < 18446744073709551616) ∧ w.cell? (a.add (k * 5)) = some (.int .i64 c) ∧ w.cell? ⟨(a.add (k * 5)).block, (a.add (k * 5)).off + 1, none⟩ = some (.int .i64 d) ∧
  w.cell? ⟨(a.add (k * 5)).block, (a.add (k * 5)).off + 2, none⟩ = some (.float .f64 u) ∧ w.cell? ⟨(a.add (k * 5)).block, (a.add (k * 5)).off + 3, none⟩ = some (.float .f64 v) ∧ w.cell? ⟨(a.add (k * 5)).block, (a.add (k * 5)).off + 4, none⟩ = some (.int .i64 n)
theorem OpAt.keep {w w' : World} {A : Option Addr} {k : Nat} (h : OpAt w A k) (hb : Below w.heap.size w w') : OpAt w' A k := by
  obtain ⟨a, c, d, n, u, v, h1, h2, h3, h4, h5, h6, h7⟩ := h
  exact ⟨a, c, d, n, u, v, h1, h2, cell_keep' hb h3, cell_keep' hb h4, cell_keep' hb h5, cell_keep' hb h6, cell_keep' hb h7⟩
set_option maxHeartbeats 1000000 in
set_option maxRecDepth 100000 in
theorem plays_walk (A : Option Addr) (L cap : Nat) (w : World) (h : ∀ k, k < L → OpAt w A k) :
    Calls Tryz.prog 4 #[.slice A L cap] w fun e w' => e = .returned (.bool true) ∧ Below w.heap.size w w' := by
  have HA := Lib.hid (fun W (hW : Below w.heap.size w W) k (hk : k < L) => (h k hk).keep hW)
  have HO := Lib.hid (fun c d u v n hu hv W => one_calls c d u v n hu hv W)
  clear h
  go_enter Tryz.func4, Tryz.ntmps4
  go_wp2
  go_loopw [3] (fun iv wr => ∃ k : Nat, k ≤ L ∧ k ≤ 200 ∧ iv = .int .i64 k ∧ Hid (Below w.heap.size w wr)) (fun iv _ => 200 - (intOf iv).toNat)
  case atStart => exact ⟨0, Nat.zero_le _, by decide, rfl, Below.refl _ _⟩
  case round =>
    obtain ⟨k, hk, hk2, rfl, hW⟩ := hrel
    by_cases hgo : k < L ∧ k < 200
    · obtain ⟨hkL, hk200⟩ := hgo
      have hi1 : (k : Int) < (L : Int) := by omega
      have hi2 : (k : Int) < 200 := by omega
      obtain ⟨pa, c, d, n, u, v, rfl, hb, a0, a1, a2, a3, a4⟩ := HA.out wr hW.out k hkL
      have HBB := Lib.hid hb
      clear hb
      go_wp2_with fail
      refine (HO.out c d u v n HBB.out.1 HBB.out.2 _).mono ?_
      rintro e w2 ⟨rfl, hW2⟩
      have H2 := Lib.hid (below_next (below_new hW.out (.cells #[.int .i64 c, .int .i64 d, .float .f64 u, .float .f64 v, .int .i64 n] 39)) hW2)
      clear hW2
      go_wp2
      go_roundw
      case rel => exact ⟨k + 1, by omega, by omega, by go_num, H2.out⟩
      case measure => simp [intOf]; omega
    · by_cases hkL : k < L
      · obtain rfl : k = 200 := by omega
        have hi1 : ((200 : Nat) : Int) < (L : Int) := by omega
        clear hgo
        go_wp2_with fail
        refine (started_calls _).mono ?_
        rintro e w2 ⟨rfl, hW2⟩
        have H2 := Lib.hid (below_next hW.out hW2)
        clear hW2
        go_wp2
        go_ret
        exact ⟨rfl, H2.out⟩
      · have hi1 : ¬ ((k : Int) < (L : Int)) := by omega
        clear hgo
        go_wp2_with fail
        refine (started_calls _).mono ?_
        rintro e w2 ⟨rfl, hW2⟩
        have H2 := Lib.hid (below_next hW.out hW2)
        clear hW2
        go_wp2
        go_ret
        exact ⟨rfl, H2.out⟩
end Go.Proofs.YtfgdmiigmcnmpaaGreatFmt
