import Derived.Test.YtogjodnmegafdaaGreatFmtJ45
import Derived.Test.YtogjodnmegafdaaGreatFmtJ37
set_option linter.unusedVariables false
set_option linter.unusedSimpArgs false
namespace Go.Proofs.YtogjodnmegafdaaGreatFmt
open Go.RowKit
attribute [local go_sem ↓] Go.wp_at_zero Go.wp_at_succ

/-! ### RoundNext -/
theorem next2_calls (d : Int) (u : Nat) (hu : u < 18446744073709551616) (w : World) :
    Calls Tryz.prog 50 #[.int .i64 d, .int .u64 u] w fun e w' => e = optRet (nextS d u) ∧ Below w.heap.size w w' := by
  rcases hf : fin u with _ | _
  · rw [next_bad hf]
    exact next2_bad d u hu hf w
  · have h := next_law (d := d) hu hf
    have e : rndD d 1080 (numV u * ((2 ^ 6 : Nat) : Int) + stepS d) = nextS d u := by
      rw [← h]
      unfold rndD numV
      rw [hf, if_pos rfl]
      rfl
    rw [← e]
    exact next2_fin d u hu hf w
set_option maxHeartbeats 1000000 in
set_option maxRecDepth 100000 in
theorem one0_calls (d : Int) (u : Nat) (hu : u < 18446744073709551616) (w : World) :
    Calls Tryz.prog 29 #[.int .i64 0, .int .i64 d, .float .f64 u, .float .f64 0, .int .i64 0] w fun e w' => e = .returned (.bool true) ∧ Below w.heap.size w w' := by
  have HB1 := Lib.hid (fun W => apibits_calls u W)
  have HB2 := Lib.hid (fun W => apibits_calls 0 W)
  have HN := Lib.hid (fun W => rnext_calls d u hu W)
  have HR := Lib.hid (fun W => next2_calls d u hu W)
  obtain ⟨o, ho⟩ : ∃ o, nextS d u = o := ⟨_, rfl⟩
  rw [ho] at HN HR
  obtain ⟨a, ha⟩ : ∃ a, o.getD 0 = a := ⟨_, rfl⟩
  obtain ⟨b, hb⟩ : ∃ a, o.isSome = a := ⟨_, rfl⟩
  unfold fRet2 at HN
  unfold optRet at HR
  rw [ha, hb] at HN HR
  have HS := Lib.hid (fun W => same_calls a b W)
  clear ho ha hb hu
  go_enter Tryz.func29, Tryz.ntmps29
  go_wp2_with fail
  refine (HB1.out _).mono ?_
  rintro e w' ⟨rfl, rfl⟩
  go_wp2_with fail
  refine (HB2.out _).mono ?_
  rintro e w' ⟨rfl, rfl⟩
  go_wp2_with fail
  refine (HN.out _).mono ?_
  rintro e w' ⟨rfl, rfl⟩
  go_wp2_with fail
  refine (HR.out _).mono ?_
  rintro e w1 ⟨rfl, hW⟩
  have H1 := Lib.hid hW
  clear hW
  go_wp2_with fail
  refine (HS.out _).mono ?_
  rintro e w' ⟨rfl, rfl⟩
  go_wp2
  go_ret
  exact ⟨rfl, H1.out⟩
set_option maxHeartbeats 1000000 in
set_option maxRecDepth 100000 in
theorem next_walk (d : Int) (u : Nat) (hu : u < 18446744073709551616) (w : World) :
    Calls Tryz.prog 7 #[.int .i64 d, .float .f64 u] w fun e w' => e = .returned (.bool true) ∧ Below w.heap.size w w' := by
  have HB := Lib.hid (fun W => apibits_calls u W)
  have HN1 := Lib.hid (fun W => number?_calls u (fin u) W hu rfl)
  have HN2 := Lib.hid (fun W => number2_calls u hu W)
  have HO1 := Lib.hid (fun W => one0_calls d u hu W)
  have HO2 := Lib.hid (fun W => one0_calls 1 u hu W)
  have HO3 := Lib.hid (fun W => one0_calls 2 u hu W)
  obtain ⟨f, hf⟩ : ∃ f, fin u = f := ⟨_, rfl⟩
  rw [hf] at HN1 HN2
  clear hf hu
  cases f
  all_goals (
    go_enter Tryz.func7, Tryz.ntmps7
    go_wp2_with fail
    refine (HN1.out _).mono ?_
    rintro e w' ⟨rfl, rfl⟩
    go_wp2_with fail
    refine (HB.out _).mono ?_
    rintro e w' ⟨rfl, rfl⟩
    go_wp2_with fail
    refine (HN2.out _).mono ?_
    rintro e w' ⟨rfl, rfl⟩
    go_wp2_with fail
    refine (HO1.out _).mono ?_
    rintro e w1 ⟨rfl, hW⟩
    have H1 := Lib.hid hW
    clear hW
    go_wp2_with fail
    refine (HO2.out _).mono ?_
    rintro e w2 ⟨rfl, hW⟩
    have H2 := Lib.hid (below_next H1.out hW)
    clear hW
    go_wp2_with fail
    refine (HO3.out _).mono ?_
    rintro e w3 ⟨rfl, hW⟩
    have H3 := Lib.hid (below_next H2.out hW)
    clear hW
    go_wp2_with fail
    refine (started_calls _).mono ?_
    rintro e w4 ⟨rfl, hW⟩
    have H4 := Lib.hid (below_next H3.out hW)
    clear hW
    go_wp2
    go_ret
    exact ⟨rfl, H4.out⟩)
end Go.Proofs.YtogjodnmegafdaaGreatFmt
