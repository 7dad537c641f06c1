import Derived.Test.YtikdhkmcdmnadaaGreatFmtJ31
import Derived.Test.YtikdhkmcdmnadaaGreatFmtJ32
import Derived.Test.YtikdhkmcdmnadaaGreatFmtJ33
import Derived.Test.YtikdhkmcdmnadaaGreatFmtJ15
set_option linter.unusedVariables false
set_option linter.unusedSimpArgs false
namespace Go.Proofs.YtikdhkmcdmnadaaGreatFmt
open Go.RowKit
attribute [local go_sem ↓] Go.wp_at_zero Go.wp_at_succ

/-! ### spans: good ones; a sum that is no number -/
structure Sp where
  lo : Nat
  hi : Nat
  bad : Bool
def badS : Sp := ⟨0, 0, true⟩
def leF (x y : Nat) : Bool := FloatKind.f64.format.order x y == some .lt || FloatKind.f64.format.order x y == some .eq
def goodB (lo hi : Nat) (b : Bool) : Bool := !b && (fin lo && (fin hi && leF lo hi))
def nrm (u : Nat) : Nat := sgnR (fneg u) (uabs u)
/-- what a sum that is no number is: any of them -/
def nanZ (u v : Nat) (W : World) : Nat := (Question.nanBits .f64 u v).cut (W.tape W.drawn (.nanBits .f64 u v))
theorem run_fadd_nan (ty : Nat) {u v : Nat} (h : Ieee.double.add u v = none) (W : World) : (binOp .add ty (.float .f64 u) (.float .f64 v)).run Tryz.prog W = .ok (.float .f64 (nanZ u v W)) W.drew := by
  have h' : FloatKind.f64.format.add u v = none := h
  simp [binOp, Op.floatArith, h', go_sem]
  rfl
theorem nan_bits (n t : Nat) : fin (n % 2 * 9223372036854775808 + 9218868437227405312 + 1 + t % 4503599627370495) = false ∧ n % 2 * 9223372036854775808 + 9218868437227405312 + 1 + t % 4503599627370495 < 18446744073709551616 := by
  refine ⟨?_, by omega⟩
  unfold fin fexp
  simp only [decide_eq_false_iff_not, ne_eq, Decidable.not_not]
  omega
theorem nanZ_bad (u v : Nat) (W : World) : fin (nanZ u v W) = false ∧ nanZ u v W < 18446744073709551616 := by
  unfold nanZ
  exact nan_bits _ _
theorem add0_bad {u : Nat} (hu : u < 18446744073709551616) (hf : fin u = false) : (∃ s, Ieee.double.add u 0 = some s ∧ fin s = false ∧ s < 18446744073709551616) ∨ Ieee.double.add u 0 = none := by
  unfold Ieee.Format.add
  rw [read_bad hu hf, read_fin (u := 0) (by decide) (by decide)]
  split
  · left
    refine ⟨_, rfl, ?_⟩
    cases fneg u
    · exact ⟨by decide, by decide⟩
    · exact ⟨by decide, by decide⟩
  · right; rfl
/-- u + 0, whatever u is: a number (the same, without a nought's sign), or none -/
theorem add0 (ty u : Nat) (hu : u < 18446744073709551616) : ∃ (a : World → Nat) (q : Nat), (∀ W, (binOp .add ty (.float .f64 u) (.float .f64 0)).run Tryz.prog W = .ok (.float .f64 (a W)) (W.drewN q)) ∧ (∀ W, a W < 18446744073709551616 ∧ fin (a W) = fin u) := by
  cases hf : fin u with
  | true =>
    obtain ⟨h1, h2⟩ := word_of hu hf
    refine ⟨fun _ => sgnR (fneg u) (uabs u), 0, fun W => ?_, fun W => ?_⟩
    · have := run_fadd ty (add_zero_word (neg := fneg u) h2) W
      rw [← h1] at this
      exact this
    · have e : sgnR (fneg u) (uabs u) = wordR (fneg u && decide (0 < uabs u)) (uabs u) := rfl
      rw [e]
      have hi : INFR < 9223372036854775808 := by decide
      exact ⟨word_lt (by omega), word_fin h2⟩
  | false =>
    rcases add0_bad hu hf with ⟨s, h1, h2, h3⟩ | h
    · exact ⟨fun _ => s, 0, fun W => run_fadd ty h1 W, fun _ => ⟨h3, h2⟩⟩
    · exact ⟨nanZ u 0, 1, fun W => run_fadd_nan ty h W, fun W => ⟨(nanZ_bad u 0 W).2, (nanZ_bad u 0 W).1⟩⟩
theorem add0_fin (ty : Nat) {u : Nat} (hu : u < 18446744073709551616) (hf : fin u = true) (W : World) : (binOp .add ty (.float .f64 u) (.float .f64 0)).run Tryz.prog W = .ok (.float .f64 (nrm u)) W := by
  obtain ⟨h1, h2⟩ := word_of hu hf
  have := run_fadd ty (add_zero_word (neg := fneg u) h2) W
  rw [← h1] at this
  exact this
theorem nrm_lt {u : Nat} (hu : u < 18446744073709551616) (hf : fin u = true) : nrm u < 18446744073709551616 ∧ fin (nrm u) = true := by
  obtain ⟨h1, h2⟩ := word_of hu hf
  have e : nrm u = wordR (fneg u && decide (0 < uabs u)) (uabs u) := rfl
  rw [e]
  have hi : INFR < 9223372036854775808 := by decide
  exact ⟨word_lt (by omega), word_fin h2⟩
set_option maxHeartbeats 1000000 in
set_option maxRecDepth 100000 in
theorem good_calls (lo hi : Nat) (b : Bool) (hl : lo < 18446744073709551616) (hh : hi < 18446744073709551616) (w : World) :
    Calls Tryz.prog 12 #[.agg #[.float .f64 lo, .float .f64 hi, .bool b]] w fun e w' => e = .returned (.bool (goodB lo hi b)) ∧ Below w.heap.size w w' := by
  have HL := Lib.hid (fun W => number?_calls lo (fin lo) W hl rfl)
  have HH := Lib.hid (fun W => number?_calls hi (fin hi) W hh rfl)
  have HB := Lib.hid (below_new (Below.refl w.heap.size w) (.cells #[.float .f64 lo, .float .f64 hi, .bool b] 27))
  unfold goodB leF
  obtain ⟨f1, h1⟩ : ∃ f, fin lo = f := ⟨_, rfl⟩
  obtain ⟨f2, h2⟩ : ∃ f, fin hi = f := ⟨_, rfl⟩
  obtain ⟨c, hc⟩ : ∃ c, (FloatKind.f64.format.order lo hi == some .lt || FloatKind.f64.format.order lo hi == some .eq) = c := ⟨_, rfl⟩
  rw [h1] at HL
  rw [h2] at HH
  rw [h1, h2, hc]
  clear hl hh h1 h2
  cases b
  · cases f1
    · clear hc
      go_enter Tryz.func12, Tryz.ntmps12
      go_wp2_with fail
      refine (HL.out _).mono ?_
      rintro e w' ⟨rfl, rfl⟩
      go_wp2
      go_ret
      exact ⟨rfl, HB.out⟩
    · cases f2
      · clear hc
        go_enter Tryz.func12, Tryz.ntmps12
        go_wp2_with fail
        refine (HL.out _).mono ?_
        rintro e w' ⟨rfl, rfl⟩
        go_wp2_with fail
        refine (HH.out _).mono ?_
        rintro e w' ⟨rfl, rfl⟩
        go_wp2
        go_ret
        exact ⟨rfl, HB.out⟩
      · cases c
        all_goals (
          go_enter Tryz.func12, Tryz.ntmps12
          go_wp2_with fail
          refine (HL.out _).mono ?_
          rintro e w' ⟨rfl, rfl⟩
          go_wp2_with fail
          refine (HH.out _).mono ?_
          rintro e w' ⟨rfl, rfl⟩
          go_wp2
          go_ret
          exact ⟨rfl, HB.out⟩)
  · clear hc
    go_enter Tryz.func12, Tryz.ntmps12
    go_wp2
    go_ret
    exact ⟨rfl, HB.out⟩
set_option maxHeartbeats 1000000 in
set_option maxRecDepth 100000 in
theorem both_calls (l1 h1 l2 h2 : Nat) (b1 b2 : Bool) (hl1 : l1 < 18446744073709551616) (hh1 : h1 < 18446744073709551616) (hl2 : l2 < 18446744073709551616) (hh2 : h2 < 18446744073709551616) (w : World) :
    Calls Tryz.prog 25 #[.agg #[.float .f64 l1, .float .f64 h1, .bool b1], .agg #[.float .f64 l2, .float .f64 h2, .bool b2]] w fun e w' => e = .returned (.bool (goodB l1 h1 b1 && goodB l2 h2 b2)) ∧ Below w.heap.size w w' := by
  have HG1 := Lib.hid (fun W => good_calls l1 h1 b1 hl1 hh1 W)
  have HG2 := Lib.hid (fun W => good_calls l2 h2 b2 hl2 hh2 W)
  have hB := below_new (below_new (Below.refl w.heap.size w) (.cells #[.float .f64 l1, .float .f64 h1, .bool b1] 27)) (.cells #[.float .f64 l2, .float .f64 h2, .bool b2] 27)
  have HB := Lib.hid hB
  obtain ⟨c1, hc1⟩ : ∃ c, goodB l1 h1 b1 = c := ⟨_, rfl⟩
  obtain ⟨c2, hc2⟩ : ∃ c, goodB l2 h2 b2 = c := ⟨_, rfl⟩
  rw [hc1] at HG1
  rw [hc2] at HG2
  rw [hc1, hc2]
  have HK := Lib.hid (Blk.new (w.alloc (.cells #[.float .f64 l1, .float .f64 h1, .bool b1] 27)) #[.float .f64 l2, .float .f64 h2, .bool b2] 27)
  clear hc1 hc2 hl1 hh1 hl2 hh2 hB
  cases c1
  · clear HG2 HK
    go_enter Tryz.func25, Tryz.ntmps25
    go_wp2_with fail
    refine (HG1.out _).mono ?_
    rintro e w1 ⟨rfl, hW⟩
    have H1 := Lib.hid (below_next HB.out hW)
    clear hW
    go_wp2
    go_ret
    exact ⟨rfl, H1.out⟩
  · go_enter Tryz.func25, Tryz.ntmps25
    go_wp2_with fail
    refine (HG1.out _).mono ?_
    rintro e w1 ⟨rfl, hW⟩
    have H1 := Lib.hid (below_next HB.out hW)
    have hk := HK.out.below' hW
    simp only [World.size_alloc] at hk
    have k0 := hk.cell 0
    have k1 := hk.cell 1
    have k2 := hk.cell 2
    clear hW hk
    go_wp2_with fail
    refine (HG2.out _).mono ?_
    rintro e w2 ⟨rfl, hW⟩
    have H2 := Lib.hid (below_next H1.out hW)
    clear hW
    cases c2
    all_goals (
      go_wp2
      go_ret
      exact ⟨rfl, H2.out⟩)
/-- the package's bad span lies where it was laid -/
def BadC (w : World) : Prop := w.cell? ⟨0, 0, none⟩ = some (.float .f64 0) ∧ w.cell? ⟨0, 1, none⟩ = some (.float .f64 0) ∧ w.cell? ⟨0, 2, none⟩ = some (.bool true)
theorem cell_keepV {w W : World} {q : Addr} {u : Value} (hW : Below w.heap.size w W) (h : w.cell? q = some u) : W.cell? q = some u := by
  have hlt : q.block < w.heap.size := by
    unfold World.cell? at h
    cases hh : w.heap[q.block]? with
    | none => rw [hh] at h; simp at h
    | some o => exact (Array.getElem?_eq_some_iff.1 hh).1
  exact (World.cell?_of_block (hW.block _ hlt)).trans h
theorem BadC.keep {w W : World} (h : BadC w) (hW : Below w.heap.size w W) : BadC W := ⟨cell_keepV hW h.1, cell_keepV hW h.2.1, cell_keepV hW h.2.2⟩
end Go.Proofs.YtikdhkmcdmnadaaGreatFmt
