/- Walks and plain laws of this seat's functions, part 29: G14. -/
import Derived.Test.YtikdhkmcdmnadaaGreatFmtBesafterJ28
set_option linter.unusedVariables false
set_option linter.unusedSimpArgs false
namespace Go.Proofs.YtikdhkmcdmnadaaGreatFmtBesafter
open Go.RowKit
attribute [local go_sem ↓] Go.wp_at_zero Go.wp_at_succ

/-! ### uadd -/
set_option exponentiation.threshold 30000 in
set_option maxHeartbeats 8000000 in
set_option maxRecDepth 100000 in
theorem uadd_lt (bz bx bY m1 m2 n1 n2 B1 B2 : Nat) (ax ay ex ey a b E : Int) (neg nx ny : Bool) (vx vy : Value) (w : World) (hz : Blk w bz 65 (fC 2300 0 0 neg (.slice none 0 0) 0)) (hx : Blk w bx 65 (fC 2300 ax 1 nx vx ex)) (hy : Blk w bY 65 (fC 2300 ay 1 ny vy ey))
    (hnx : bx ≠ bz) (hny : bY ≠ bz) (ox : OwnN w B1 m1 vx) (oy : OwnN w B2 m2 vy) (l1 : bl m1 = 64 * n1) (l2 : bl m2 = 64 * n2) (p1 : 0 < n1) (p2 : 0 < n2) (q1 : n1 ≤ 35) (q2 : n2 ≤ 35) (he1 : -9000 ≤ ex ∧ ex ≤ 9000) (he2 : -9000 ≤ ey ∧ ey ≤ 9000)
    (ha : a = ex - ((64 * n1 : Nat) : Int)) (hb : b = ey - ((64 * n2 : Nat) : Int)) (hE : E = min a b) (hS : bl (sumM m1 m2 a b) ≤ 2240) (h : a < b) :
    Calls Tryz.prog 57 #[.pointer (some ⟨bz, 0, none⟩), .pointer (some ⟨bx, 0, none⟩), .pointer (some ⟨bY, 0, none⟩)] w fun e w' => e = .returned (.tuple #[]) ∧
      ∃ (v : Value) (s n : Nat) (B : Nat), bl (sumM m1 m2 a b) + s = 64 * n ∧ 0 < n ∧ n ≤ 35 ∧ s < 64 ∧ Blk w' bz 65 (fC 2300 0 1 neg v (E + (n : Int) * 64 - s)) ∧ OwnN w' B (sumM m1 m2 a b * 2 ^ s) v ∧ Below bz w w' := by
  obtain ⟨A1, n1', k1, rfl, _⟩ := ox.shape
  obtain ⟨A2, n2', k2, rfl, _⟩ := oy.shape
  have zz1 : m1 ≠ 0 := by intro h; subst h; rw [bl_zero] at l1; omega
  have zz2 : m2 ≠ 0 := by intro h; subst h; rw [bl_zero] at l2; omega
  have w1 := ox.words zz1
  have w2 := oy.words zz2
  obtain rfl : n1' = n1 := by omega
  obtain rfl : n2' = n2 := by omega
  obtain ⟨c0, c1, c2, c3, c4, c5, c6⟩ := sev hx
  obtain ⟨d0, d1, d2, d3, d4, d5, d6⟩ := sev hy
  obtain ⟨z0, z1, z2, z3, z4, z5, z6⟩ := sev hz
  obtain ⟨f0, f1, f2, f3, f4, f5, f6⟩ := frz hz
  have HZ := Lib.hid hz
  have HXY : Hid (XY bx bY (fC 2300 ax 1 nx (.slice A1 n1' k1) ex) (fC 2300 ay 1 ny (.slice A2 n2' k2) ey) B1 B2 m1 m2 (.slice A1 n1' k1) (.slice A2 n2' k2) w) := ⟨hx, hy, ox, oy⟩
  have HL1 : Hid (m1 < B64 ^ 36 ∧ m2 < B64 ^ 36) := by
    rw [Hid, pow64]
    exact ⟨Nat.lt_of_lt_of_le (bl_lt m1) (Nat.pow_le_pow_right (by decide) (by omega)), Nat.lt_of_lt_of_le (bl_lt m2) (Nat.pow_le_pow_right (by decide) (by omega))⟩
  have HI := Lib.hid (And.intro he1 (And.intro he2 (And.intro ha (And.intro hb (And.intro hE (And.intro q1 q2))))))
  have hsum := sumM_ne (m2 := m2) (a := a) (b := b) zz1
  obtain ⟨S, hSS⟩ : ∃ S, sumM m1 m2 a b = S := ⟨_, rfl⟩
  rw [hSS] at hsum hS ⊢
  have HSS := Lib.hid hSS
  have HS := Lib.hid (And.intro hS hsum)
  have hw1 : IntKind.i64.wrap ex = ex := IntWalk.i64_in _ (by omega)
  have hw2 : IntKind.i64.wrap ey = ey := IntWalk.i64_in _ (by omega)
  have hw3 : IntKind.i64.wrap ((n1' : Int) * 64) = (n1' : Int) * 64 := IntWalk.i64_in _ (by omega)
  have hw4 : IntKind.i64.wrap ((n2' : Int) * 64) = (n2' : Int) * 64 := IntWalk.i64_in _ (by omega)
  have hw5 : ex - (n1' : Int) * 64 = a := by rw [ha]; omega
  have hw6 : ey - (n2' : Int) * 64 = b := by rw [hb]; omega
  have hw7 : IntKind.i64.wrap a = a := IntWalk.i64_in _ (by omega)
  have hw8 : IntKind.i64.wrap b = b := IntWalk.i64_in _ (by omega)
  have HA1 := Lib.hid (fun W => alias_nil A1 n1' k1 W)
  have HA2 := Lib.hid (fun W => alias_nil A2 n2' k2 W)
  clear hz hx hy ox oy l1 l2 he1 he2 ha hb hE q1 q2 hS w1 w2 p1 p2 hSS hsum
  go_enter Tryz.func57, Tryz.ntmps57
  go_wp2
  go_quiet (fail)
  go_wp2
  go_quiet (fail)
  go_wp2
  go_quiet ((go_at_call 72; first | with_reducible exact quiet_sum' (HA1.out _) | with_reducible exact Calls.quiet_of (HA1.out _) | with_reducible exact quiet_sum' (HA2.out _) | with_reducible exact Calls.quiet_of (HA2.out _)))
  go_upto_block 0 with fail
  go_cut [6] (fun s wx => s = .int .i64 E ∧ ∃ A n c, UZ bz neg w S A n c wx)
  case first =>
    have h1 : ¬ b < a := by omega
    obtain ⟨j, hj⟩ : ∃ j : Nat, b - a = (j : Int) := ⟨(b - a).toNat, by omega⟩
    have hjb : j ≤ 20240 := by have := HI.out; omega
    have v1 : IntKind.i64.wrap (j : Int) = j := IntWalk.i64_in _ (by omega)
    have v2 : IntKind.u64.wrap (j : Int) = j := u64w j (by omega)
    have HLS := Lib.hid (fun W (hW : Below w.heap.size w W) => nlsh_calls (.slice A2 n2' k2) m2 j W B2 (HXY.out.oy.keep hW) (by omega) 36 HL1.out.2 (by decide))
    have hm400 : m1 < B64 ^ 400 ∧ m2 < B64 ^ 400 ∧ m2 * 2 ^ j < B64 ^ 400 := by
      have e : B64 ^ 36 ≤ B64 ^ 400 := Nat.pow_le_pow_right (by decide) (by decide)
      refine ⟨Nat.lt_of_lt_of_le HL1.out.1 e, Nat.lt_of_lt_of_le HL1.out.2 e, ?_⟩
      have h2 : m2 * 2 ^ j < B64 ^ 36 * 2 ^ j := Nat.mul_lt_mul_of_pos_right HL1.out.2 (Nat.pow_pos (by decide))
      rw [pow64, ← Nat.pow_add] at h2
      rw [pow64]
      exact Nat.lt_of_lt_of_le h2 (Nat.pow_le_pow_right (by decide) (by omega))
    have HAD := Lib.hid (fun W A n c wc (hu : UZ bz neg w (m2 * 2 ^ j) A n c wc) (hx : XY bx bY (fC 2300 ax 1 nx (.slice A1 n1' k1) ex) (fC 2300 ay 1 ny (.slice A2 n2' k2) ey) B1 B2 m1 m2 (.slice A1 n1' k1) (.slice A2 n2' k2) wc) (hW : Below wc.heap.size wc W) => nadd_calls (.slice A n c) (.slice A1 n1' k1) (.slice A n c) (m2 * 2 ^ j) m1 (m2 * 2 ^ j) W w.heap.size B1 w.heap.size (hu.o.keep hW) (Nat.le_trans hu.s hW.size) (hx.ox.keep hW) (hu.o.keep hW) 400 hm400.1 hm400.2.2 (by decide))
    clear hm400
    go_wp2_with fail
    go_cut [6] (fun s wx => s = .int .i64 a ∧ ∃ A n c, UZ bz neg w (m2 * 2 ^ j) A n c wx ∧ XY bx bY (fC 2300 ax 1 nx (.slice A1 n1' k1) ex) (fC 2300 ay 1 ny (.slice A2 n2' k2) ey) B1 B2 m1 m2 (.slice A1 n1' k1) (.slice A2 n2' k2) wx)
    case first =>
      go_region_with (go_at_call 73; refine (HLS.out _ (by (repeat (first | exact Below.refl _ _ | (with_reducible apply below_drewN) | (with_reducible apply Below.drew))))).mono ?_; rintro e w2 ⟨v, rfl, hO2, hW⟩; obtain ⟨A, n, c, rfl, _⟩ := hO2.shape; have hW2 : Below w.heap.size w w2 := below_next (by (repeat (first | exact Below.refl _ _ | (with_reducible apply below_drewN) | (with_reducible apply Below.drew)))) hW; have H2 : Hid (OwnN w2 w.heap.size (m2 * 2 ^ j) (.slice A n c) ∧ Below w.heap.size w w2) := ⟨hO2, hW2⟩; obtain ⟨u0, u1, u2, u3, u4, u5, u6⟩ := sev (HZ.out.below' hW2); obtain ⟨g0, g1, g2, g3, g4, g5, g6⟩ := frz (HZ.out.below' hW2); clear hO2 hW hW2)
      all_goals (
        go_wp2
        go_meet
        have hz2 := HZ.out.below' H2.out.2
        exact ⟨rfl, A, n, c, UZ.of hz2 H2.out.1 (H2.out.2.mono (Nat.le_of_lt HZ.out.lt)), (HXY.out.keep H2.out.2).set hz2 hnx hny 5 _⟩)
    case rest =>
      obtain ⟨rfl, A, n, c, hu, hxy⟩ := hcut
      have HU := Lib.hid hu
      have HX2 := Lib.hid hxy
      clear hu hxy c0 c1 c2 c3 c4 c5 c6 d0 d1 d2 d3 d4 d5 d6 z0 z1 z2 z3 z4 z5 z6 f0 f1 f2 f3 f4 f5 f6
      obtain ⟨c0, c1, c2, c3, c4, c5, c6⟩ := sev HX2.out.x
      obtain ⟨d0, d1, d2, d3, d4, d5, d6⟩ := sev HX2.out.y
      obtain ⟨z0, z1, z2, z3, z4, z5, z6⟩ := sev HU.out.z
      obtain ⟨f0, f1, f2, f3, f4, f5, f6⟩ := frz HU.out.z
      go_wp2
      go_region_with (go_at_call 74; refine (HAD.out _ A n c wc HU.out HX2.out (by (repeat (first | exact Below.refl _ _ | (with_reducible apply below_drewN) | (with_reducible apply Below.drew))))).mono ?_; rintro e w3 ⟨v, rfl, hO3, hW⟩; obtain ⟨A', n', c', rfl, _⟩ := hO3.shape; have H3 : Hid (OwnN w3 w.heap.size (m1 + m2 * 2 ^ j) (.slice A' n' c') ∧ Below w.heap.size wc w3) := ⟨hO3, Below.trans (by (repeat (first | exact Below.refl _ _ | (with_reducible apply below_drewN) | (with_reducible apply Below.drew)))) hW⟩; obtain ⟨u0, u1, u2, u3, u4, u5, u6⟩ := sev (HU.out.z.below H3.out.2 HZ.out.lt); obtain ⟨g0, g1, g2, g3, g4, g5, g6⟩ := frz (HU.out.z.below H3.out.2 HZ.out.lt); clear hO3 hW)
      all_goals (
        go_wp2
        go_meet
        have e1 : m1 + m2 * 2 ^ j = S := by rw [← HSS.out]; unfold sumM; rw [if_pos (by omega)]; congr 3; omega
        have e2 : E = a := by have := HI.out; omega
        rw [e1] at H3
        subst e2
        exact ⟨rfl, A', n', c', UZ.of (HU.out.z.below H3.out.2 HZ.out.lt) H3.out.1 (HU.out.b.trans (H3.out.2.mono (Nat.le_of_lt HZ.out.lt)))⟩)
  case rest =>
    obtain ⟨rfl, A, n, c, hu⟩ := hcut
    have HU := Lib.hid hu
    clear hu c0 c1 c2 c3 c4 c5 c6 d0 d1 d2 d3 d4 d5 d6 z0 z1 z2 z3 z4 z5 z6 f0 f1 f2 f3 f4 f5 f6 hw1 hw2 hw3 hw4 hw5 hw6 hw7 hw8
    obtain ⟨z0, z1, z2, z3, z4, z5, z6⟩ := sev HU.out.z
    have hnw := HU.out.o.words HS.out.2
    have hn35 : n ≤ 35 := by have := HS.out.1; omega
    have hEb : -20000 ≤ E ∧ E ≤ 9000 := by have := HI.out; omega
    have hv1 : IntKind.i64.wrap ((n : Int) * 64) = (n : Int) * 64 := IntWalk.i64_in _ (by omega)
    have hv2 : IntKind.i64.wrap (E + (n : Int) * 64) = E + (n : Int) * 64 := IntWalk.i64_in _ (by omega)
    have HN := Lib.hid (And.intro hnw (And.intro hn35 hEb))
    have HF := Lib.hid (fun W (hW : ∃ q, W = wc.drewN q) => fnorm_at A n c S w.heap.size bz _ W (by obtain ⟨q, rfl⟩ := hW; exact HU.out.o) HS.out.2 HS.out.1 (by obtain ⟨q, rfl⟩ := hW; exact HU.out.z) HZ.out.lt)
    clear hnw hn35 hEb
    go_wp2
    go_region_with (first | (go_at_call 76; refine (HF.out _ (by first | exact ⟨_, rfl⟩ | exact ⟨_, drewN_drewN _ _ _⟩ | exact ⟨1, rfl⟩ | exact ⟨0, rfl⟩)).mono ?_; rintro e w4 ⟨s, rfl, s1, s2, s3, s4, hO5, hB5, hW5⟩; have hv3 : IntKind.i64.wrap (E + (n : Int) * 64 - (s : Int)) = E + (n : Int) * 64 - (s : Int) := IntWalk.i64_in _ (by have := HN.out; omega); obtain ⟨y0, y1, y2, y3, y4, y5, y6⟩ := sev hB5; have HS5 := Lib.hid (fun W (hW : ∃ q, W = w4.drewN q) => setexp_calls bz n c 0 0 0 (E + (n : Int) * 64 - (s : Int)) neg A W (by obtain ⟨q, rfl⟩ := hW; exact hB5) s4 (by have := HN.out; omega)); have HS6 := Lib.hid (setexp_calls bz n c 0 0 0 (E + (n : Int) * 64 - (s : Int)) neg A w4 hB5 s4 (by have := HN.out; omega)); have H5 : Hid (bl S + s = 64 * n ∧ 0 < n ∧ n ≤ 35 ∧ s < 64 ∧ OwnN w4 w.heap.size (S * 2 ^ s) (.slice A n c) ∧ Below bz w w4) := ⟨s1, s3, s4, s2, hO5, HU.out.b.trans ((below_drewN (Below.refl _ wc) _).trans (hW5.mono (Nat.le_of_lt HZ.out.lt)))⟩; clear s1 s2 s3 s4 hO5 hB5 hW5) | (go_at_call 75; (first | refine HS6.out.mono ?_ | refine (HS5.out _ ⟨_, rfl⟩).mono ?_); rintro e w5 ⟨rfl, hB6, hW6⟩; have H6 : Hid (Blk w5 bz 65 (fC 2300 0 1 neg (.slice A n c) (E + (n : Int) * 64 - (s : Int))) ∧ Only bz w4 w5) := ⟨hB6, by first | exact hW6 | exact ((Only.refl bz w4).drewN _).trans hW6⟩; clear hB6 hW6))
    all_goals (
      go_wp2
      go_end0
      obtain ⟨k1, k2, k3, k4, k5, k6⟩ := H5.out
      exact ⟨rfl, _, s, n, w.heap.size, k1, k2, k3, k4, H6.out.1, k5.only H6.out.2 HZ.out.lt, k6.trans H6.out.2.below⟩)
set_option exponentiation.threshold 30000 in
set_option maxHeartbeats 8000000 in
set_option maxRecDepth 100000 in
theorem uadd_eq (bz bx bY m1 m2 n1 n2 B1 B2 : Nat) (ax ay ex ey a b E : Int) (neg nx ny : Bool) (vx vy : Value) (w : World) (hz : Blk w bz 65 (fC 2300 0 0 neg (.slice none 0 0) 0)) (hx : Blk w bx 65 (fC 2300 ax 1 nx vx ex)) (hy : Blk w bY 65 (fC 2300 ay 1 ny vy ey))
    (hnx : bx ≠ bz) (hny : bY ≠ bz) (ox : OwnN w B1 m1 vx) (oy : OwnN w B2 m2 vy) (l1 : bl m1 = 64 * n1) (l2 : bl m2 = 64 * n2) (p1 : 0 < n1) (p2 : 0 < n2) (q1 : n1 ≤ 35) (q2 : n2 ≤ 35) (he1 : -9000 ≤ ex ∧ ex ≤ 9000) (he2 : -9000 ≤ ey ∧ ey ≤ 9000)
    (ha : a = ex - ((64 * n1 : Nat) : Int)) (hb : b = ey - ((64 * n2 : Nat) : Int)) (hE : E = min a b) (hS : bl (sumM m1 m2 a b) ≤ 2240) (h : a = b) :
    Calls Tryz.prog 57 #[.pointer (some ⟨bz, 0, none⟩), .pointer (some ⟨bx, 0, none⟩), .pointer (some ⟨bY, 0, none⟩)] w fun e w' => e = .returned (.tuple #[]) ∧
      ∃ (v : Value) (s n : Nat) (B : Nat), bl (sumM m1 m2 a b) + s = 64 * n ∧ 0 < n ∧ n ≤ 35 ∧ s < 64 ∧ Blk w' bz 65 (fC 2300 0 1 neg v (E + (n : Int) * 64 - s)) ∧ OwnN w' B (sumM m1 m2 a b * 2 ^ s) v ∧ Below bz w w' := by
  obtain ⟨A1, n1', k1, rfl, _⟩ := ox.shape
  obtain ⟨A2, n2', k2, rfl, _⟩ := oy.shape
  have zz1 : m1 ≠ 0 := by intro h; subst h; rw [bl_zero] at l1; omega
  have zz2 : m2 ≠ 0 := by intro h; subst h; rw [bl_zero] at l2; omega
  have w1 := ox.words zz1
  have w2 := oy.words zz2
  obtain rfl : n1' = n1 := by omega
  obtain rfl : n2' = n2 := by omega
  obtain ⟨c0, c1, c2, c3, c4, c5, c6⟩ := sev hx
  obtain ⟨d0, d1, d2, d3, d4, d5, d6⟩ := sev hy
  obtain ⟨z0, z1, z2, z3, z4, z5, z6⟩ := sev hz
  obtain ⟨f0, f1, f2, f3, f4, f5, f6⟩ := frz hz
  have HZ := Lib.hid hz
  have HXY : Hid (XY bx bY (fC 2300 ax 1 nx (.slice A1 n1' k1) ex) (fC 2300 ay 1 ny (.slice A2 n2' k2) ey) B1 B2 m1 m2 (.slice A1 n1' k1) (.slice A2 n2' k2) w) := ⟨hx, hy, ox, oy⟩
  have HL1 : Hid (m1 < B64 ^ 36 ∧ m2 < B64 ^ 36) := by
    rw [Hid, pow64]
    exact ⟨Nat.lt_of_lt_of_le (bl_lt m1) (Nat.pow_le_pow_right (by decide) (by omega)), Nat.lt_of_lt_of_le (bl_lt m2) (Nat.pow_le_pow_right (by decide) (by omega))⟩
  have HI := Lib.hid (And.intro he1 (And.intro he2 (And.intro ha (And.intro hb (And.intro hE (And.intro q1 q2))))))
  have hsum := sumM_ne (m2 := m2) (a := a) (b := b) zz1
  obtain ⟨S, hSS⟩ : ∃ S, sumM m1 m2 a b = S := ⟨_, rfl⟩
  rw [hSS] at hsum hS ⊢
  have HSS := Lib.hid hSS
  have HS := Lib.hid (And.intro hS hsum)
  have hw1 : IntKind.i64.wrap ex = ex := IntWalk.i64_in _ (by omega)
  have hw2 : IntKind.i64.wrap ey = ey := IntWalk.i64_in _ (by omega)
  have hw3 : IntKind.i64.wrap ((n1' : Int) * 64) = (n1' : Int) * 64 := IntWalk.i64_in _ (by omega)
  have hw4 : IntKind.i64.wrap ((n2' : Int) * 64) = (n2' : Int) * 64 := IntWalk.i64_in _ (by omega)
  have hw5 : ex - (n1' : Int) * 64 = a := by rw [ha]; omega
  have hw6 : ey - (n2' : Int) * 64 = b := by rw [hb]; omega
  have hw7 : IntKind.i64.wrap a = a := IntWalk.i64_in _ (by omega)
  have hw8 : IntKind.i64.wrap b = b := IntWalk.i64_in _ (by omega)
  have HA1 := Lib.hid (fun W => alias_nil A1 n1' k1 W)
  have HA2 := Lib.hid (fun W => alias_nil A2 n2' k2 W)
  clear hz hx hy ox oy l1 l2 he1 he2 ha hb hE q1 q2 hS w1 w2 p1 p2 hSS hsum
  go_enter Tryz.func57, Tryz.ntmps57
  go_wp2
  go_quiet (fail)
  go_wp2
  go_quiet (fail)
  go_wp2
  go_quiet ((go_at_call 72; first | with_reducible exact quiet_sum' (HA1.out _) | with_reducible exact Calls.quiet_of (HA1.out _) | with_reducible exact quiet_sum' (HA2.out _) | with_reducible exact Calls.quiet_of (HA2.out _)))
  go_upto_block 0 with fail
  go_cut [6] (fun s wx => s = .int .i64 E ∧ ∃ A n c, UZ bz neg w S A n c wx)
  case first =>
    subst h
    have h1 : ¬ a < a := by omega
    have HAD := Lib.hid (fun W (hW : Below w.heap.size w W) => nadd_calls (.slice none 0 0) (.slice A1 n1' k1) (.slice A2 n2' k2) 0 m1 m2 W W.heap.size B1 B2 (.inl ⟨rfl, rfl⟩) (Nat.le_refl _) (HXY.out.ox.keep hW) (HXY.out.oy.keep hW) 36 HL1.out.1 HL1.out.2 (by decide))
    go_wp2_with fail
    go_region_with (go_at_call 74; refine (HAD.out _ (by (repeat (first | exact Below.refl _ _ | (with_reducible apply below_drewN) | (with_reducible apply Below.drew))))).mono ?_; rintro e w2 ⟨v, rfl, hO2, hW⟩; obtain ⟨A, n, c, rfl, _⟩ := hO2.shape; have hW2 : Below w.heap.size w w2 := below_next (by (repeat (first | exact Below.refl _ _ | (with_reducible apply below_drewN) | (with_reducible apply Below.drew)))) hW; have H2 : Hid (OwnN w2 w.heap.size (m1 + m2) (.slice A n c) ∧ Below w.heap.size w w2) := ⟨hO2, hW2⟩; obtain ⟨u0, u1, u2, u3, u4, u5, u6⟩ := sev (HZ.out.below' hW2); obtain ⟨g0, g1, g2, g3, g4, g5, g6⟩ := frz (HZ.out.below' hW2); clear hO2 hW hW2)
    all_goals (
      go_wp2
      go_meet
      have hz2 := HZ.out.below' H2.out.2
      have e1 : m1 + m2 = S := by rw [← HSS.out]; unfold sumM; rw [if_neg (by omega), if_neg (by omega)]
      have e2 : E = a := by have := HI.out; omega
      rw [e1] at H2
      subst e2
      exact ⟨rfl, A, n, c, UZ.of hz2 H2.out.1 (H2.out.2.mono (Nat.le_of_lt HZ.out.lt))⟩)
  case rest =>
    obtain ⟨rfl, A, n, c, hu⟩ := hcut
    have HU := Lib.hid hu
    clear hu c0 c1 c2 c3 c4 c5 c6 d0 d1 d2 d3 d4 d5 d6 z0 z1 z2 z3 z4 z5 z6 f0 f1 f2 f3 f4 f5 f6 hw1 hw2 hw3 hw4 hw5 hw6 hw7 hw8
    obtain ⟨z0, z1, z2, z3, z4, z5, z6⟩ := sev HU.out.z
    have hnw := HU.out.o.words HS.out.2
    have hn35 : n ≤ 35 := by have := HS.out.1; omega
    have hEb : -20000 ≤ E ∧ E ≤ 9000 := by have := HI.out; omega
    have hv1 : IntKind.i64.wrap ((n : Int) * 64) = (n : Int) * 64 := IntWalk.i64_in _ (by omega)
    have hv2 : IntKind.i64.wrap (E + (n : Int) * 64) = E + (n : Int) * 64 := IntWalk.i64_in _ (by omega)
    have HN := Lib.hid (And.intro hnw (And.intro hn35 hEb))
    have HF := Lib.hid (fun W (hW : ∃ q, W = wc.drewN q) => fnorm_at A n c S w.heap.size bz _ W (by obtain ⟨q, rfl⟩ := hW; exact HU.out.o) HS.out.2 HS.out.1 (by obtain ⟨q, rfl⟩ := hW; exact HU.out.z) HZ.out.lt)
    clear hnw hn35 hEb
    go_wp2
    go_region_with (first | (go_at_call 76; refine (HF.out _ (by first | exact ⟨_, rfl⟩ | exact ⟨_, drewN_drewN _ _ _⟩ | exact ⟨1, rfl⟩ | exact ⟨0, rfl⟩)).mono ?_; rintro e w4 ⟨s, rfl, s1, s2, s3, s4, hO5, hB5, hW5⟩; have hv3 : IntKind.i64.wrap (E + (n : Int) * 64 - (s : Int)) = E + (n : Int) * 64 - (s : Int) := IntWalk.i64_in _ (by have := HN.out; omega); obtain ⟨y0, y1, y2, y3, y4, y5, y6⟩ := sev hB5; have HS5 := Lib.hid (fun W (hW : ∃ q, W = w4.drewN q) => setexp_calls bz n c 0 0 0 (E + (n : Int) * 64 - (s : Int)) neg A W (by obtain ⟨q, rfl⟩ := hW; exact hB5) s4 (by have := HN.out; omega)); have HS6 := Lib.hid (setexp_calls bz n c 0 0 0 (E + (n : Int) * 64 - (s : Int)) neg A w4 hB5 s4 (by have := HN.out; omega)); have H5 : Hid (bl S + s = 64 * n ∧ 0 < n ∧ n ≤ 35 ∧ s < 64 ∧ OwnN w4 w.heap.size (S * 2 ^ s) (.slice A n c) ∧ Below bz w w4) := ⟨s1, s3, s4, s2, hO5, HU.out.b.trans ((below_drewN (Below.refl _ wc) _).trans (hW5.mono (Nat.le_of_lt HZ.out.lt)))⟩; clear s1 s2 s3 s4 hO5 hB5 hW5) | (go_at_call 75; (first | refine HS6.out.mono ?_ | refine (HS5.out _ ⟨_, rfl⟩).mono ?_); rintro e w5 ⟨rfl, hB6, hW6⟩; have H6 : Hid (Blk w5 bz 65 (fC 2300 0 1 neg (.slice A n c) (E + (n : Int) * 64 - (s : Int))) ∧ Only bz w4 w5) := ⟨hB6, by first | exact hW6 | exact ((Only.refl bz w4).drewN _).trans hW6⟩; clear hB6 hW6))
    all_goals (
      go_wp2
      go_end0
      obtain ⟨k1, k2, k3, k4, k5, k6⟩ := H5.out
      exact ⟨rfl, _, s, n, w.heap.size, k1, k2, k3, k4, H6.out.1, k5.only H6.out.2 HZ.out.lt, k6.trans H6.out.2.below⟩)
set_option exponentiation.threshold 30000 in
set_option maxHeartbeats 8000000 in
set_option maxRecDepth 100000 in
theorem uadd_gt (bz bx bY m1 m2 n1 n2 B1 B2 : Nat) (ax ay ex ey a b E : Int) (neg nx ny : Bool) (vx vy : Value) (w : World) (hz : Blk w bz 65 (fC 2300 0 0 neg (.slice none 0 0) 0)) (hx : Blk w bx 65 (fC 2300 ax 1 nx vx ex)) (hy : Blk w bY 65 (fC 2300 ay 1 ny vy ey))
    (hnx : bx ≠ bz) (hny : bY ≠ bz) (ox : OwnN w B1 m1 vx) (oy : OwnN w B2 m2 vy) (l1 : bl m1 = 64 * n1) (l2 : bl m2 = 64 * n2) (p1 : 0 < n1) (p2 : 0 < n2) (q1 : n1 ≤ 35) (q2 : n2 ≤ 35) (he1 : -9000 ≤ ex ∧ ex ≤ 9000) (he2 : -9000 ≤ ey ∧ ey ≤ 9000)
    (ha : a = ex - ((64 * n1 : Nat) : Int)) (hb : b = ey - ((64 * n2 : Nat) : Int)) (hE : E = min a b) (hS : bl (sumM m1 m2 a b) ≤ 2240) (h : b < a) :
    Calls Tryz.prog 57 #[.pointer (some ⟨bz, 0, none⟩), .pointer (some ⟨bx, 0, none⟩), .pointer (some ⟨bY, 0, none⟩)] w fun e w' => e = .returned (.tuple #[]) ∧
      ∃ (v : Value) (s n : Nat) (B : Nat), bl (sumM m1 m2 a b) + s = 64 * n ∧ 0 < n ∧ n ≤ 35 ∧ s < 64 ∧ Blk w' bz 65 (fC 2300 0 1 neg v (E + (n : Int) * 64 - s)) ∧ OwnN w' B (sumM m1 m2 a b * 2 ^ s) v ∧ Below bz w w' := by
  obtain ⟨A1, n1', k1, rfl, _⟩ := ox.shape
  obtain ⟨A2, n2', k2, rfl, _⟩ := oy.shape
  have zz1 : m1 ≠ 0 := by intro h; subst h; rw [bl_zero] at l1; omega
  have zz2 : m2 ≠ 0 := by intro h; subst h; rw [bl_zero] at l2; omega
  have w1 := ox.words zz1
  have w2 := oy.words zz2
  obtain rfl : n1' = n1 := by omega
  obtain rfl : n2' = n2 := by omega
  obtain ⟨c0, c1, c2, c3, c4, c5, c6⟩ := sev hx
  obtain ⟨d0, d1, d2, d3, d4, d5, d6⟩ := sev hy
  obtain ⟨z0, z1, z2, z3, z4, z5, z6⟩ := sev hz
  obtain ⟨f0, f1, f2, f3, f4, f5, f6⟩ := frz hz
  have HZ := Lib.hid hz
  have HXY : Hid (XY bx bY (fC 2300 ax 1 nx (.slice A1 n1' k1) ex) (fC 2300 ay 1 ny (.slice A2 n2' k2) ey) B1 B2 m1 m2 (.slice A1 n1' k1) (.slice A2 n2' k2) w) := ⟨hx, hy, ox, oy⟩
  have HL1 : Hid (m1 < B64 ^ 36 ∧ m2 < B64 ^ 36) := by
    rw [Hid, pow64]
    exact ⟨Nat.lt_of_lt_of_le (bl_lt m1) (Nat.pow_le_pow_right (by decide) (by omega)), Nat.lt_of_lt_of_le (bl_lt m2) (Nat.pow_le_pow_right (by decide) (by omega))⟩
  have HI := Lib.hid (And.intro he1 (And.intro he2 (And.intro ha (And.intro hb (And.intro hE (And.intro q1 q2))))))
  have hsum := sumM_ne (m2 := m2) (a := a) (b := b) zz1
  obtain ⟨S, hSS⟩ : ∃ S, sumM m1 m2 a b = S := ⟨_, rfl⟩
  rw [hSS] at hsum hS ⊢
  have HSS := Lib.hid hSS
  have HS := Lib.hid (And.intro hS hsum)
  have hw1 : IntKind.i64.wrap ex = ex := IntWalk.i64_in _ (by omega)
  have hw2 : IntKind.i64.wrap ey = ey := IntWalk.i64_in _ (by omega)
  have hw3 : IntKind.i64.wrap ((n1' : Int) * 64) = (n1' : Int) * 64 := IntWalk.i64_in _ (by omega)
  have hw4 : IntKind.i64.wrap ((n2' : Int) * 64) = (n2' : Int) * 64 := IntWalk.i64_in _ (by omega)
  have hw5 : ex - (n1' : Int) * 64 = a := by rw [ha]; omega
  have hw6 : ey - (n2' : Int) * 64 = b := by rw [hb]; omega
  have hw7 : IntKind.i64.wrap a = a := IntWalk.i64_in _ (by omega)
  have hw8 : IntKind.i64.wrap b = b := IntWalk.i64_in _ (by omega)
  have HA1 := Lib.hid (fun W => alias_nil A1 n1' k1 W)
  have HA2 := Lib.hid (fun W => alias_nil A2 n2' k2 W)
  clear hz hx hy ox oy l1 l2 he1 he2 ha hb hE q1 q2 hS w1 w2 p1 p2 hSS hsum
  go_enter Tryz.func57, Tryz.ntmps57
  go_wp2
  go_quiet (fail)
  go_wp2
  go_quiet (fail)
  go_wp2
  go_quiet ((go_at_call 72; first | with_reducible exact quiet_sum' (HA1.out _) | with_reducible exact Calls.quiet_of (HA1.out _) | with_reducible exact quiet_sum' (HA2.out _) | with_reducible exact Calls.quiet_of (HA2.out _)))
  go_upto_block 0 with fail
  go_cut [6] (fun s wx => s = .int .i64 E ∧ ∃ A n c, UZ bz neg w S A n c wx)
  case first =>
    have h1 : ¬ a < b := by omega
    obtain ⟨j, hj⟩ : ∃ j : Nat, a - b = (j : Int) := ⟨(a - b).toNat, by omega⟩
    have hjb : j ≤ 20240 := by have := HI.out; omega
    have v1 : IntKind.i64.wrap (j : Int) = j := IntWalk.i64_in _ (by omega)
    have v2 : IntKind.u64.wrap (j : Int) = j := u64w j (by omega)
    have HLS := Lib.hid (fun W (hW : Below w.heap.size w W) => nlsh_calls (.slice A1 n1' k1) m1 j W B1 (HXY.out.ox.keep hW) (by omega) 36 HL1.out.1 (by decide))
    have hm400 : m1 < B64 ^ 400 ∧ m2 < B64 ^ 400 ∧ m1 * 2 ^ j < B64 ^ 400 := by
      have e : B64 ^ 36 ≤ B64 ^ 400 := Nat.pow_le_pow_right (by decide) (by decide)
      refine ⟨Nat.lt_of_lt_of_le HL1.out.1 e, Nat.lt_of_lt_of_le HL1.out.2 e, ?_⟩
      have h2 : m1 * 2 ^ j < B64 ^ 36 * 2 ^ j := Nat.mul_lt_mul_of_pos_right HL1.out.1 (Nat.pow_pos (by decide))
      rw [pow64, ← Nat.pow_add] at h2
      rw [pow64]
      exact Nat.lt_of_lt_of_le h2 (Nat.pow_le_pow_right (by decide) (by omega))
    have HAD := Lib.hid (fun W A n c wc (hu : UZ bz neg w (m1 * 2 ^ j) A n c wc) (hx : XY bx bY (fC 2300 ax 1 nx (.slice A1 n1' k1) ex) (fC 2300 ay 1 ny (.slice A2 n2' k2) ey) B1 B2 m1 m2 (.slice A1 n1' k1) (.slice A2 n2' k2) wc) (hW : Below wc.heap.size wc W) => nadd_calls (.slice A n c) (.slice A n c) (.slice A2 n2' k2) (m1 * 2 ^ j) (m1 * 2 ^ j) m2 W w.heap.size w.heap.size B2 (hu.o.keep hW) (Nat.le_trans hu.s hW.size) (hu.o.keep hW) (hx.oy.keep hW) 400 hm400.2.2 hm400.2.1 (by decide))
    clear hm400
    go_wp2_with fail
    go_cut [6] (fun s wx => s = .int .i64 a ∧ ∃ A n c, UZ bz neg w (m1 * 2 ^ j) A n c wx ∧ XY bx bY (fC 2300 ax 1 nx (.slice A1 n1' k1) ex) (fC 2300 ay 1 ny (.slice A2 n2' k2) ey) B1 B2 m1 m2 (.slice A1 n1' k1) (.slice A2 n2' k2) wx)
    case first =>
      go_region_with (go_at_call 73; refine (HLS.out _ (by (repeat (first | exact Below.refl _ _ | (with_reducible apply below_drewN) | (with_reducible apply Below.drew))))).mono ?_; rintro e w2 ⟨v, rfl, hO2, hW⟩; obtain ⟨A, n, c, rfl, _⟩ := hO2.shape; have hW2 : Below w.heap.size w w2 := below_next (by (repeat (first | exact Below.refl _ _ | (with_reducible apply below_drewN) | (with_reducible apply Below.drew)))) hW; have H2 : Hid (OwnN w2 w.heap.size (m1 * 2 ^ j) (.slice A n c) ∧ Below w.heap.size w w2) := ⟨hO2, hW2⟩; obtain ⟨u0, u1, u2, u3, u4, u5, u6⟩ := sev (HZ.out.below' hW2); obtain ⟨g0, g1, g2, g3, g4, g5, g6⟩ := frz (HZ.out.below' hW2); clear hO2 hW hW2)
      all_goals (
        go_wp2
        go_meet
        have hz2 := HZ.out.below' H2.out.2
        exact ⟨rfl, A, n, c, UZ.of hz2 H2.out.1 (H2.out.2.mono (Nat.le_of_lt HZ.out.lt)), (HXY.out.keep H2.out.2).set hz2 hnx hny 5 _⟩)
    case rest =>
      obtain ⟨rfl, A, n, c, hu, hxy⟩ := hcut
      have HU := Lib.hid hu
      have HX2 := Lib.hid hxy
      clear hu hxy c0 c1 c2 c3 c4 c5 c6 d0 d1 d2 d3 d4 d5 d6 z0 z1 z2 z3 z4 z5 z6 f0 f1 f2 f3 f4 f5 f6
      obtain ⟨c0, c1, c2, c3, c4, c5, c6⟩ := sev HX2.out.x
      obtain ⟨d0, d1, d2, d3, d4, d5, d6⟩ := sev HX2.out.y
      obtain ⟨z0, z1, z2, z3, z4, z5, z6⟩ := sev HU.out.z
      obtain ⟨f0, f1, f2, f3, f4, f5, f6⟩ := frz HU.out.z
      go_wp2
      go_region_with (go_at_call 74; refine (HAD.out _ A n c wc HU.out HX2.out (by (repeat (first | exact Below.refl _ _ | (with_reducible apply below_drewN) | (with_reducible apply Below.drew))))).mono ?_; rintro e w3 ⟨v, rfl, hO3, hW⟩; obtain ⟨A', n', c', rfl, _⟩ := hO3.shape; have H3 : Hid (OwnN w3 w.heap.size (m1 * 2 ^ j + m2) (.slice A' n' c') ∧ Below w.heap.size wc w3) := ⟨hO3, Below.trans (by (repeat (first | exact Below.refl _ _ | (with_reducible apply below_drewN) | (with_reducible apply Below.drew)))) hW⟩; obtain ⟨u0, u1, u2, u3, u4, u5, u6⟩ := sev (HU.out.z.below H3.out.2 HZ.out.lt); obtain ⟨g0, g1, g2, g3, g4, g5, g6⟩ := frz (HU.out.z.below H3.out.2 HZ.out.lt); clear hO3 hW)
      all_goals (
        go_wp2
        go_meet
        have e1 : m1 * 2 ^ j + m2 = S := by rw [← HSS.out]; unfold sumM; rw [if_neg (by omega), if_pos h]; congr 3; omega
        have e2 : E = b := by have := HI.out; omega
        rw [e1] at H3
        subst e2
        exact ⟨rfl, A', n', c', UZ.of (HU.out.z.below H3.out.2 HZ.out.lt) H3.out.1 (HU.out.b.trans (H3.out.2.mono (Nat.le_of_lt HZ.out.lt)))⟩)
  case rest =>
    obtain ⟨rfl, A, n, c, hu⟩ := hcut
    have HU := Lib.hid hu
    clear hu c0 c1 c2 c3 c4 c5 c6 d0 d1 d2 d3 d4 d5 d6 z0 z1 z2 z3 z4 z5 z6 f0 f1 f2 f3 f4 f5 f6 hw1 hw2 hw3 hw4 hw5 hw6 hw7 hw8
    obtain ⟨z0, z1, z2, z3, z4, z5, z6⟩ := sev HU.out.z
    have hnw := HU.out.o.words HS.out.2
    have hn35 : n ≤ 35 := by have := HS.out.1; omega
    have hEb : -20000 ≤ E ∧ E ≤ 9000 := by have := HI.out; omega
    have hv1 : IntKind.i64.wrap ((n : Int) * 64) = (n : Int) * 64 := IntWalk.i64_in _ (by omega)
    have hv2 : IntKind.i64.wrap (E + (n : Int) * 64) = E + (n : Int) * 64 := IntWalk.i64_in _ (by omega)
    have HN := Lib.hid (And.intro hnw (And.intro hn35 hEb))
    have HF := Lib.hid (fun W (hW : ∃ q, W = wc.drewN q) => fnorm_at A n c S w.heap.size bz _ W (by obtain ⟨q, rfl⟩ := hW; exact HU.out.o) HS.out.2 HS.out.1 (by obtain ⟨q, rfl⟩ := hW; exact HU.out.z) HZ.out.lt)
    clear hnw hn35 hEb
    go_wp2
    go_region_with (first | (go_at_call 76; refine (HF.out _ (by first | exact ⟨_, rfl⟩ | exact ⟨_, drewN_drewN _ _ _⟩ | exact ⟨1, rfl⟩ | exact ⟨0, rfl⟩)).mono ?_; rintro e w4 ⟨s, rfl, s1, s2, s3, s4, hO5, hB5, hW5⟩; have hv3 : IntKind.i64.wrap (E + (n : Int) * 64 - (s : Int)) = E + (n : Int) * 64 - (s : Int) := IntWalk.i64_in _ (by have := HN.out; omega); obtain ⟨y0, y1, y2, y3, y4, y5, y6⟩ := sev hB5; have HS5 := Lib.hid (fun W (hW : ∃ q, W = w4.drewN q) => setexp_calls bz n c 0 0 0 (E + (n : Int) * 64 - (s : Int)) neg A W (by obtain ⟨q, rfl⟩ := hW; exact hB5) s4 (by have := HN.out; omega)); have HS6 := Lib.hid (setexp_calls bz n c 0 0 0 (E + (n : Int) * 64 - (s : Int)) neg A w4 hB5 s4 (by have := HN.out; omega)); have H5 : Hid (bl S + s = 64 * n ∧ 0 < n ∧ n ≤ 35 ∧ s < 64 ∧ OwnN w4 w.heap.size (S * 2 ^ s) (.slice A n c) ∧ Below bz w w4) := ⟨s1, s3, s4, s2, hO5, HU.out.b.trans ((below_drewN (Below.refl _ wc) _).trans (hW5.mono (Nat.le_of_lt HZ.out.lt)))⟩; clear s1 s2 s3 s4 hO5 hB5 hW5) | (go_at_call 75; (first | refine HS6.out.mono ?_ | refine (HS5.out _ ⟨_, rfl⟩).mono ?_); rintro e w5 ⟨rfl, hB6, hW6⟩; have H6 : Hid (Blk w5 bz 65 (fC 2300 0 1 neg (.slice A n c) (E + (n : Int) * 64 - (s : Int))) ∧ Only bz w4 w5) := ⟨hB6, by first | exact hW6 | exact ((Only.refl bz w4).drewN _).trans hW6⟩; clear hB6 hW6))
    all_goals (
      go_wp2
      go_end0
      obtain ⟨k1, k2, k3, k4, k5, k6⟩ := H5.out
      exact ⟨rfl, _, s, n, w.heap.size, k1, k2, k3, k4, H6.out.1, k5.only H6.out.2 HZ.out.lt, k6.trans H6.out.2.below⟩)
end Go.Proofs.YtikdhkmcdmnadaaGreatFmtBesafter
