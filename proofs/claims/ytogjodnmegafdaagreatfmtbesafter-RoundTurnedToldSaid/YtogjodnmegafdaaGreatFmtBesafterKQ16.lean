import Derived.Test.YtogjodnmegafdaaGreatFmtBesafterJ31
import Derived.Test.YtogjodnmegafdaaGreatFmtBesafterJ33
import Derived.Test.YtogjodnmegafdaaGreatFmtBesafterJ34
set_option linter.unusedVariables false
set_option linter.unusedSimpArgs false
namespace Go.Proofs.YtogjodnmegafdaaGreatFmtBesafter
open Go.RowKit
attribute [local go_sem ↓] Go.wp_at_zero Go.wp_at_succ

/-! ### RoundTurned -/
theorem t_beq {x y : Nat} (h : Ieee.double.order x y = some .eq) : (FloatKind.f64.format.order x y == some .eq) = true ∧ (FloatKind.f64.format.order x y != some .eq) = false := by
  have h' : FloatKind.f64.format.order x y = some .eq := h
  rw [h']; exact ⟨rfl, rfl⟩
theorem apifloat63 (w : World) : Calls Tryz.prog 8 #[.int .u64 9223372036854775808] w fun e w' => e = .returned (.float .f64 9223372036854775808) ∧ w = w' := by
  go_enter Tryz.func8, Tryz.ntmps8
  go_wp2
  go_ret
  exact ⟨rfl, rfl⟩
theorem t_bne (b : Bool) : (b != b) = false := by cases b <;> rfl
set_option maxHeartbeats 4000000 in
set_option maxRecDepth 100000 in
theorem turned_walk (u v : Nat) (hu : u < 18446744073709551616) (hv : v < 18446744073709551616) (w : World) :
    Calls Tryz.prog 3 #[.float .f64 u, .float .f64 v] w fun e w' => e = .returned (.bool true) ∧ Below w.heap.size w w' := by
  have hu' := uneg_lt hu
  have hv' := uneg_lt hv
  have HT1 := ask_turn hu hv (.inl rfl)
  have HT2 := ask_turn hu hv (.inr rfl)
  have HT3 := ask_turn3 hu hv
  have A1 := Lib.hid (fun W => asked_calls 1 1 u v hu hv (.inl rfl) W)
  have B1 := Lib.hid (fun W => asked_calls 1 2 (uneg u) (uneg v) hu' hv' (.inl rfl) W)
  have A2 := Lib.hid (fun W => asked_calls 2 1 u v hu hv (.inr (.inl rfl)) W)
  have B2 := Lib.hid (fun W => asked_calls 2 2 (uneg u) (uneg v) hu' hv' (.inr (.inl rfl)) W)
  have A3 := Lib.hid (fun W => asked_calls 3 1 u v hu hv (.inr (.inr rfl)) W)
  have B3 := Lib.hid (fun W => asked_calls 3 2 (uneg u) (uneg v) hu' hv' (.inr (.inr rfl)) W)
  have C3 := Lib.hid (fun W => asked_calls 3 2 (uneg u) v hu' hv (.inr (.inr rfl)) W)
  have D1 := Lib.hid (fun W => rdiv_calls 0 u v hu hv W)
  have D2 := Lib.hid (fun W => rdiv_calls 0 (uneg u) (uneg v) hu' hv' W)
  rw [div_turn hu hv] at D2
  have E1 := Lib.hid (fun W => radd_calls 0 u v hu hv W)
  have E2 := Lib.hid (fun W => radd_calls 0 v u hv hu W)
  rw [← ask_comm 0 u v (.inl rfl)] at E2
  have M1 := Lib.hid (fun W => rmul_calls 1 u v hu hv W)
  have M2 := Lib.hid (fun W => rmul_calls 1 v u hv hu W)
  rw [← ask_comm 1 u v (.inr rfl)] at M2
  have Z1 := Lib.hid (fun W => radd_calls 2 u 0 hu (by decide) W)
  have Z2 := Lib.hid (fun W => radd_calls 2 u 9223372036854775808 hu (by decide) W)
  rw [ask_nought 2 u] at Z2
  have qd := t_beq (div_eq 0 u v)
  have qe := t_beq (ask_eq 1 0 u v)
  have qm := t_beq (ask_eq 3 1 u v)
  have qz : (askS 1 2 u 0).isSome = true → (FloatKind.f64.format.order ((askS 1 2 u 0).getD 0) u == some .eq) = true := by
    intro h
    cases hx : askS 1 2 u 0 with
    | none => rw [hx] at h; cases h
    | some x => exact (t_beq (ask_itself hu hx)).1
  unfold fRet2 at A1 B1 A2 B2 A3 B3 C3 D1 D2 E1 E2 M1 M2 Z1 Z2
  rw [← HT1.1] at B1
  rw [← HT2.1] at B2
  rw [← HT3.1] at C3
  have r1 := t_beq HT1.2
  have r2 := t_beq HT2.2
  have r3 := t_beq HT3.2
  have n1 : ∀ W, (Op.unary .neg (.float .f64 ((askS 1 2 (uneg u) (uneg v)).getD 0))).run Tryz.prog W = .ok (.float .f64 (uneg ((askS 1 2 (uneg u) (uneg v)).getD 0))) W := fun W => by rfl
  have n2 : ∀ W, (Op.unary .neg (.float .f64 ((askS 2 2 (uneg u) (uneg v)).getD 0))).run Tryz.prog W = .ok (.float .f64 (uneg ((askS 2 2 (uneg u) (uneg v)).getD 0))) W := fun W => by rfl
  have n3 : ∀ W, (Op.unary .neg (.float .f64 ((askS 3 2 (uneg u) v).getD 0))).run Tryz.prog W = .ok (.float .f64 (uneg ((askS 3 2 (uneg u) v).getD 0))) W := fun W => by rfl
  have nu : ∀ W, (Op.unary .neg (.float .f64 u)).run Tryz.prog W = .ok (.float .f64 (uneg u)) W := fun W => by rfl
  have nv : ∀ W, (Op.unary .neg (.float .f64 v)).run Tryz.prog W = .ok (.float .f64 (uneg v)) W := fun W => by rfl
  obtain ⟨a1, e1⟩ : ∃ a, (askS 1 1 u v).getD 0 = a := ⟨_, rfl⟩
  obtain ⟨a2, e2⟩ : ∃ a, (askS 2 1 u v).getD 0 = a := ⟨_, rfl⟩
  obtain ⟨a3, e3⟩ : ∃ a, (askS 3 1 u v).getD 0 = a := ⟨_, rfl⟩
  obtain ⟨b1, e4⟩ : ∃ a, (askS 1 2 (uneg u) (uneg v)).getD 0 = a := ⟨_, rfl⟩
  obtain ⟨b2, e5⟩ : ∃ a, (askS 2 2 (uneg u) (uneg v)).getD 0 = a := ⟨_, rfl⟩
  obtain ⟨b3, e6⟩ : ∃ a, (askS 3 2 (uneg u) (uneg v)).getD 0 = a := ⟨_, rfl⟩
  obtain ⟨c3, e7⟩ : ∃ a, (askS 3 2 (uneg u) v).getD 0 = a := ⟨_, rfl⟩
  obtain ⟨x1, e8⟩ : ∃ a, (askS 1 1 u v).isSome = a := ⟨_, rfl⟩
  obtain ⟨x2, e9⟩ : ∃ a, (askS 2 1 u v).isSome = a := ⟨_, rfl⟩
  obtain ⟨x3, e10⟩ : ∃ a, (askS 3 1 u v).isSome = a := ⟨_, rfl⟩
  obtain ⟨x4, e11⟩ : ∃ a, (askS 3 2 (uneg u) (uneg v)).isSome = a := ⟨_, rfl⟩
  obtain ⟨u', eu⟩ : ∃ a, uneg u = a := ⟨_, rfl⟩
  obtain ⟨v', ev⟩ : ∃ a, uneg v = a := ⟨_, rfl⟩
  rw [e4] at n1 r1 B1
  rw [e5] at n2 r2 B2
  rw [e7] at n3 r3 C3
  rw [e6, e11] at B3
  rw [e1] at A1 r1
  rw [e8] at A1 B1
  rw [e2] at A2 r2
  rw [e9] at A2 B2
  rw [e3] at A3
  rw [e3] at r3
  rw [e10] at A3 C3
  rw [eu] at nu B1 B2 B3 C3 D2
  rw [ev] at nv B1 B2 B3 D2
  obtain ⟨m1, g1⟩ : ∃ a, uneg b1 = a := ⟨_, rfl⟩
  obtain ⟨m2, g2⟩ : ∃ a, uneg b2 = a := ⟨_, rfl⟩
  obtain ⟨m3, g3⟩ : ∃ a, uneg c3 = a := ⟨_, rfl⟩
  rw [g1] at n1 r1
  rw [g2] at n2 r2
  rw [g3] at n3 r3
  obtain ⟨zd, h1⟩ : ∃ a, (divS 0 u v).getD 0 = a := ⟨_, rfl⟩
  obtain ⟨yd, h2⟩ : ∃ a, (divS 0 u v).isSome = a := ⟨_, rfl⟩
  obtain ⟨ze, h3⟩ : ∃ a, (askS 1 0 u v).getD 0 = a := ⟨_, rfl⟩
  obtain ⟨ye, h4⟩ : ∃ a, (askS 1 0 u v).isSome = a := ⟨_, rfl⟩
  obtain ⟨zz, h7⟩ : ∃ a, (askS 1 2 u 0).getD 0 = a := ⟨_, rfl⟩
  obtain ⟨yz, h8⟩ : ∃ a, (askS 1 2 u 0).isSome = a := ⟨_, rfl⟩
  rw [h1] at D1 D2 qd
  rw [h2] at D1 D2
  rw [h3] at E1 E2 qe
  rw [h4] at E1 E2
  rw [e3] at M1 M2 qm
  rw [e10] at M1 M2
  rw [h7] at Z1 Z2 qz
  rw [h8] at Z1 Z2 qz
  have P1 := t_bne x1
  have P2 := t_bne x2
  have P3 := t_bne x3
  have P4 := t_bne yd
  have P5 := t_bne ye
  have P6 := t_bne yz
  have HBT := Lib.hid (fun W => apibits_calls zz W)
  have HQZ := Lib.hid qz
  obtain ⟨r11, r12⟩ := r1
  obtain ⟨r21, r22⟩ := r2
  obtain ⟨r31, r32⟩ := r3
  obtain ⟨qd1, qd2⟩ := qd
  obtain ⟨qe1, qe2⟩ := qe
  obtain ⟨qm1, qm2⟩ := qm
  clear HT1 HT2 HT3 hu hv hu' hv' e1 e2 e3 e4 e5 e6 e7 e8 e9 e10 e11 eu ev g1 g2 g3 h1 h2 h3 h4 h7 h8 qz
  go_enter Tryz.func3, Tryz.ntmps3
  go_wp2_with fail
  go_loopw [5] (fun i wr => ∃ k : Nat, i = .int .i64 (k : Int) ∧ (k = 1 ∨ k = 2 ∨ k = 3 ∨ k = 4) ∧ Hid (Below w.heap.size w wr)) (fun i _ => 4 - (intOf i).toNat)
  case atStart => exact ⟨1, rfl, .inl rfl, Below.refl _ _⟩
  case round =>
    obtain ⟨k, rfl, hk, hW0⟩ := hrel
    rcases hk with rfl | rfl | rfl | rfl
    · go_wp2_with fail
      refine (A1.out _).mono ?_
      rintro e w1 ⟨rfl, hW⟩
      have H1 := Lib.hid (below_next hW0.out hW)
      clear hW
      go_wp2_with fail
      refine (B1.out _).mono ?_
      rintro e w2 ⟨rfl, hW⟩
      have H2 := Lib.hid (below_next H1.out hW)
      clear hW
      go_wp2_with fail
      go_roundw
      case rel => exact ⟨2, rfl, .inr (.inl rfl), H2.out⟩
      case measure => simp [intOf]
    · go_wp2_with fail
      refine (A2.out _).mono ?_
      rintro e w1 ⟨rfl, hW⟩
      have H1 := Lib.hid (below_next hW0.out hW)
      clear hW
      go_wp2_with fail
      refine (B2.out _).mono ?_
      rintro e w2 ⟨rfl, hW⟩
      have H2 := Lib.hid (below_next H1.out hW)
      clear hW
      go_wp2_with fail
      go_roundw
      case rel => exact ⟨3, rfl, .inr (.inr (.inl rfl)), H2.out⟩
      case measure => simp [intOf]
    · go_wp2_with fail
      refine (A3.out _).mono ?_
      rintro e w1 ⟨rfl, hW⟩
      have H1 := Lib.hid (below_next hW0.out hW)
      clear hW
      go_wp2_with fail
      refine (B3.out _).mono ?_
      rintro e w2 ⟨rfl, hW⟩
      have H2 := Lib.hid (below_next H1.out hW)
      clear hW
      go_wp2_with fail
      refine (C3.out _).mono ?_
      rintro e w3 ⟨rfl, hW⟩
      have H3 := Lib.hid (below_next H2.out hW)
      clear hW
      go_wp2_with fail
      go_roundw
      case rel => exact ⟨4, rfl, .inr (.inr (.inr rfl)), H3.out⟩
      case measure => simp [intOf]
    · go_wp2_with fail
      refine (D1.out _).mono ?_
      rintro e w1 ⟨rfl, hW⟩
      have H1 := Lib.hid (below_next hW0.out hW)
      clear hW
      go_wp2_with fail
      refine (D2.out _).mono ?_
      rintro e w2 ⟨rfl, hW⟩
      have H2 := Lib.hid (below_next H1.out hW)
      clear hW
      go_wp2_with fail
      refine (E1.out _).mono ?_
      rintro e w3 ⟨rfl, hW⟩
      have H3 := Lib.hid (below_next H2.out hW)
      clear hW
      go_wp2_with fail
      refine (E2.out _).mono ?_
      rintro e w4 ⟨rfl, hW⟩
      have H4 := Lib.hid (below_next H3.out hW)
      clear hW
      go_wp2_with fail
      refine (M1.out _).mono ?_
      rintro e w5 ⟨rfl, hW⟩
      have H5 := Lib.hid (below_next H4.out hW)
      clear hW
      go_wp2_with fail
      refine (M2.out _).mono ?_
      rintro e w6 ⟨rfl, hW⟩
      have H6 := Lib.hid (below_next H5.out hW)
      clear hW
      go_wp2_with fail
      refine (apifloat63 _).mono ?_
      rintro e w' ⟨rfl, rfl⟩
      go_wp2_with fail
      refine (Z1.out _).mono ?_
      rintro e w7 ⟨rfl, hW⟩
      have H7 := Lib.hid (below_next H6.out hW)
      clear hW
      go_wp2_with fail
      refine (Z2.out _).mono ?_
      rintro e w8 ⟨rfl, hW⟩
      have H8 := Lib.hid (below_next H7.out hW)
      clear hW H1 H2 H3 H4 H5 H6 H7
      go_wp2_with fail
      refine (HBT.out _).mono ?_
      rintro e w' ⟨rfl, rfl⟩
      go_wp2_with fail
      refine (HBT.out _).mono ?_
      rintro e w' ⟨rfl, rfl⟩
      cases yz
      · go_wp2_with fail
        refine (started_calls _).mono ?_
        rintro e wz ⟨rfl, hW⟩
        have HZ := Lib.hid (below_next H8.out hW)
        clear hW
        go_wp2
        go_ret
        exact ⟨rfl, HZ.out⟩
      · have hq := HQZ.out rfl
        go_wp2_with fail
        refine (started_calls _).mono ?_
        rintro e wz ⟨rfl, hW⟩
        have HZ := Lib.hid (below_next H8.out hW)
        clear hW
        go_wp2
        go_ret
        exact ⟨rfl, HZ.out⟩
end Go.Proofs.YtogjodnmegafdaaGreatFmtBesafter
