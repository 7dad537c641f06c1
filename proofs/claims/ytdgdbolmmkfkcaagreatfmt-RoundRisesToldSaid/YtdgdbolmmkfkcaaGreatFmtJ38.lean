/- Walks and plain laws of this seat's functions, part 38: C13r. -/
import Derived.Test.YtdgdbolmmkfkcaaGreatFmtJ06
set_option linter.unusedVariables false
set_option linter.unusedSimpArgs false
namespace Go.Proofs.YtdgdbolmmkfkcaaGreatFmt
open Go.RowKit

set_option maxHeartbeats 1000000 in
set_option maxRecDepth 100000 in
theorem whole2_zero (w : World) : Calls Tryz.prog 13 #[.int .i64 0] w fun e w' => e = .returned (.agg #[.bool false, .slice none 0 0, .int .i64 0]) ∧ Below w.heap.size w w' := by
  go_enter Tryz.func13, Tryz.ntmps13
  go_wp2
  exact bodyPost_ret (v := .agg #[.bool false, .slice none 0 0, .int .i64 0]) (by simp [results, Tryz.results13, go_sem]) rfl ⟨rfl, below_new (Below.refl _ _) _⟩
set_option maxHeartbeats 1000000 in
set_option maxRecDepth 100000 in
theorem whole2_pos (m base : Nat) (w : World) (h0 : m ≠ 0) (hm : m < 4611686018427387904) :
    Calls Tryz.prog 13 #[.int .i64 m] w fun e w' => ∃ v, e = .returned (.agg #[.bool false, v, .int .i64 0]) ∧ mRd.R w' base m [v] ∧ Below w.heap.size w w' := by
  have h1 : ((m : Int) == 0) = false := by simpa using h0
  have h2 : decide ((m : Int) < 0) = false := decide_eq_false (by omega)
  have HM := Lib.hid h0
  clear h0
  go_enter Tryz.func13, Tryz.ntmps13
  go_wp2_with fail
  have hZ := Lib.hid (lits32 (w.alloc (Obj.cells #[Value.bool false, Value.slice none 0 0, Value.int IntKind.i64 0] 25)) ((m : Int) % 4294967296) ((m : Int) / 4294967296) (m % 4294967296) (m / 4294967296) 56 (w.heap.size + 1) (by simp) (by omega) (by omega))
  have hl2 := two_lt (m := m) (by omega)
  refine (trim_calls _ _ _ 56 0 [m % 4294967296, m / 4294967296] _ rfl (u32all hZ.out hl2) (by simp) (Nat.le_refl _)).mono ?_
  rintro e w' ⟨rfl, rfl⟩
  clear hZ
  go_wp2
  refine bodyPost_ret (v := .agg #[.bool false, .slice (some ⟨w.heap.size + 1, 0, none⟩) (trimLen [m % 4294967296, m / 4294967296] 2) 2, .int .i64 0]) (by simp [results, Tryz.results13, go_sem]) rfl ⟨_, rfl, ?_, ?_⟩
  · exact mRd_trim (by repeat (first | exact lits32 _ _ _ _ _ _ _ (by simp) (by omega) (by omega) | (refine Blk.far ?_ (by simp) _))) hl2 rfl (Nat.le_refl _) (val_two _)
  · repeat (first | exact below_new (below_new (Below.refl _ _) _) _ | refine Below.setCell ?_ (by simp <;> omega) _)
set_option maxHeartbeats 1000000 in
set_option maxRecDepth 100000 in
theorem whole2_neg (m base : Nat) (w : World) (h0 : m ≠ 0) (hm : m < 4611686018427387904) :
    Calls Tryz.prog 13 #[.int .i64 (-(m : Int))] w fun e w' => ∃ v, e = .returned (.agg #[.bool true, v, .int .i64 0]) ∧ mRd.R w' base m [v] ∧ Below w.heap.size w w' := by
  have h1 : (-(m : Int) == 0) = false := by simp; omega
  have h2 : decide (-(m : Int) < 0) = true := decide_eq_true (by omega)
  have h3 : ¬ (-(m : Int) = 0) := by omega
  have hwr : IntKind.u64.wrap (-IntKind.u64.wrap (-(m : Int))) = (m : Int) := by simp [IntKind.wrap, IntKind.bits, IntKind.signed]; omega
  have HM := Lib.hid h0
  clear h0
  go_enter Tryz.func13, Tryz.ntmps13
  go_wp2_with fail
  have hZ := Lib.hid (lits32 (w.alloc (Obj.cells #[Value.bool false, Value.slice none 0 0, Value.int IntKind.i64 0] 25)) ((m : Int) % 4294967296) ((m : Int) / 4294967296) (m % 4294967296) (m / 4294967296) 56 (w.heap.size + 1) (by simp) (by omega) (by omega))
  have hl2 := two_lt (m := m) (by omega)
  refine (trim_calls _ _ _ 56 0 [m % 4294967296, m / 4294967296] _ rfl (u32all hZ.out hl2) (by simp) (Nat.le_refl _)).mono ?_
  rintro e w' ⟨rfl, rfl⟩
  clear hZ
  go_wp2
  refine bodyPost_ret (v := .agg #[.bool true, .slice (some ⟨w.heap.size + 1, 0, none⟩) (trimLen [m % 4294967296, m / 4294967296] 2) 2, .int .i64 0]) (by simp [results, Tryz.results13, go_sem]) rfl ⟨_, rfl, ?_, ?_⟩
  · exact mRd_trim (by repeat (first | exact lits32 _ _ _ _ _ _ _ (by simp) (by omega) (by omega) | (refine Blk.far ?_ (by simp) _))) hl2 rfl (Nat.le_refl _) (val_two _)
  · repeat (first | exact below_new (below_new (Below.refl _ _) _) _ | refine Below.setCell ?_ (by simp <;> omega) _)
theorem whole2_calls (n : Int) (base : Nat) (w : World) (hn : n.natAbs < 4611686018427387904) :
    Calls Tryz.prog 13 #[.int .i64 n] w fun e w' => ∃ cs, e = .returned (.agg cs.toArray) ∧ (numRd 0).R w' base n cs ∧ Below w.heap.size w w' := by
  rcases Int.lt_trichotomy n 0 with h | h | h
  · obtain ⟨m, rfl⟩ : ∃ m : Nat, n = -(m : Int) := ⟨n.natAbs, by omega⟩
    refine (whole2_neg m base w (by omega) (by omega)).mono ?_
    rintro e w' ⟨v, rfl, hv, hW⟩
    exact ⟨[.bool true, v, .int .i64 0], rfl, ⟨true, m, 0, v, rfl, hv, fun _ => by omega, by omega, by simp [sg]⟩, hW⟩
  · subst h
    refine (whole2_zero w).mono ?_
    rintro e w' ⟨rfl, hW⟩
    exact ⟨[.bool false, .slice none 0 0, .int .i64 0], rfl, ⟨false, 0, 0, _, rfl, mRd_nil _ _ _ _, fun h => absurd rfl h, by omega, by simp [sg]⟩, hW⟩
  · obtain ⟨m, rfl⟩ : ∃ m : Nat, n = (m : Int) := ⟨n.natAbs, by omega⟩
    refine (whole2_pos m base w (by omega) (by omega)).mono ?_
    rintro e w' ⟨v, rfl, hv, hW⟩
    exact ⟨[.bool false, v, .int .i64 0], rfl, ⟨false, m, 0, v, rfl, hv, fun _ => by omega, by omega, by simp [sg]⟩, hW⟩
end Go.Proofs.YtdgdbolmmkfkcaaGreatFmt
