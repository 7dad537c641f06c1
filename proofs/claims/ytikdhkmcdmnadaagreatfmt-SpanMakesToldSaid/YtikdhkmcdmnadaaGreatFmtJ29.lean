/- Walks and plain laws of this seat's functions, part 29: G18 G19 G20 G20b. -/
import Derived.Test.YtikdhkmcdmnadaaGreatFmtJ28
set_option linter.unusedVariables false
set_option linter.unusedSimpArgs false
namespace Go.Proofs.YtikdhkmcdmnadaaGreatFmt
open Go.RowKit
attribute [local go_sem ↓] Go.wp_at_zero Go.wp_at_succ

/-! ### Set -/
theorem neq_flt_other (w : World) {a b : Addr} {ca cb : Array Value} {ta tb : TypeId} (hne : a ≠ b) (ha : w.heap[a.block]? = some (.cells ca ta (0, 0))) (hb : w.heap[b.block]? = some (.cells cb tb (0, 0))) :
    (binOp .neq 74 (.pointer (some a)) (.pointer (some b))).run Tryz.prog w = .ok (.bool true) w := by
  obtain ⟨i, hi, hs⟩ := flt_info
  have hp : Tryz.prog.underlying 74 = some (.pointer 82) := by kernel_rfl
  have h : ∀ d : Nat, (Op.equalIn (d + 1) 74 (.pointer (some a)) (.pointer (some b))).run Tryz.prog w = .ok false w := fun d => by
    simp [Op.equalIn, run_underlying hp, sizeOf, typeInfo, hi, hs, run_sameAddr_other w hne ha hb]
  simp only [binOp]
  simp [Op.equal, Op.maxDepth, h 9999]
abbrev f0P (p : Nat) (v : Value) : List Value := [.int .u32 p, .int .u8 0, .int .i8 0, .int .u8 0, .bool false, v, .int .i32 0]
/-- the word and the exponent of a Float cut to p bits -/
def WCut (b p hv : Nat) (neg rest : Bool) (ex : Int) (w' : World) : Prop :=
  ∃ (g N W : Nat) (X : Int), Blk w' b 82 (fP p (accM neg rest hv) neg (.slice (some ⟨g, 0, none⟩) 1 N) X) ∧ (∃ Z', Blk w' g 109 (i64s Z') ∧ Z'.getD 0 0 = W ∧ (∀ d ∈ Z', d < B64) ∧ 0 < Z'.length) ∧ N ≤ 1099511627776 ∧
    ((hv / 2 + (moreH 0 false rest hv).toNat = 2 ^ p ∧ X = ex + 1 ∧ W = 9223372036854775808) ∨ (hv / 2 + (moreH 0 false rest hv).toNat < 2 ^ p ∧ X = ex ∧ W = (hv / 2 + (moreH 0 false rest hv).toNat) * 2 ^ (64 - p)))
set_option exponentiation.threshold 3000 in
set_option maxHeartbeats 4000000 in
set_option maxRecDepth 100000 in
theorem set_cut (b bx n p hv m B : Nat) (ax ex : Int) (neg rest : Bool) (v : Value) (w : World) (hb : Blk w b 82 (f0P p (.slice none 0 0))) (hx : Blk w bx 82 (fC 2300 ax 1 neg v ex)) (hO : OwnN w B m v) (hne : b ≠ bx)
    (hbl : bl m = 64 * n) (h0 : 0 < n) (h35 : n ≤ 35) (hp0 : 0 < p) (hp53 : p ≤ 53) (hex : -20000 ≤ ex ∧ ex ≤ 20000) (hh : hv = m / 2 ^ (64 * n - p - 1)) (hr : rest = restB (m % 2 ^ (64 * n - p - 1))) :
    Calls Tryz.prog 77 #[.pointer (some ⟨b, 0, none⟩), .pointer (some ⟨bx, 0, none⟩)] w fun e w' => e = .returned (.pointer (some ⟨b, 0, none⟩)) ∧ WCut b p hv neg rest ex w' ∧ Below b w w' := by
  have hm0 : m ≠ 0 := by intro h; subst h; rw [bl_zero] at hbl; omega
  obtain ⟨A, n', c, rfl, _⟩ := hO.shape
  have hw := hO.words hm0
  obtain rfl : n' = n := by omega
  obtain ⟨x0, x1, x2, x3, x4, x5, x6⟩ := sev hx
  obtain ⟨z0, z1, z2, z3, z4, z5, z6⟩ := sev hb
  obtain ⟨f0, f1, f2, f3, f4, f5, f6⟩ := frz hb
  have hbx : ¬ bx = b := fun h => hne h.symm
  have hneq1 := neq_flt_other (w.setCell ⟨b, 2, none⟩ (.int .i8 0)) (a := ⟨b, 0, none⟩) (b := ⟨bx, 0, none⟩) (by intro h; injection h with h; exact hne h) (hb.set 2 (.int .i8 0)) (hx.set_far hbx 2 (.int .i8 0))
  have HB := Lib.hid (And.intro hb (And.intro hx (And.intro hO hm0)))
  have hL : m < B64 ^ 36 := by
    rw [pow64]; exact Nat.lt_of_lt_of_le (bl_lt m) (Nat.pow_le_pow_right (by decide) (by omega))
  have HL := Lib.hid hL
  have HN := Lib.hid (And.intro hbl (And.intro h0 (And.intro h35 (And.intro hp0 (And.intro hp53 (And.intro hex (And.intro hh hr)))))))
  have hpz : ((p : Int) == 0) = false := by simp; omega
  have hp2 : (p : Int) < 2300 := by omega
  clear hb hx hO hbl h0 h35 hp0 hp53 hex hh hr hw hm0 hL
  go_enter Tryz.func77, Tryz.ntmps77
  go_wp2
  obtain ⟨k1, k2, k3, k4⟩ := HB.out
  have hb1 : Blk ((((w.setCell ⟨b, 2, none⟩ (.int .i8 0)).setCell ⟨b, 3, none⟩ (.int .u8 1)).setCell ⟨b, 4, none⟩ (.bool neg)).setCell ⟨b, 6, none⟩ (.int .i32 ex)) b 82 (fP p 0 neg (.slice none 0 0) ex) := (((k1.set 2 _).set 3 _).set 4 _).set 6 _
  have hx1 : Blk ((((w.setCell ⟨b, 2, none⟩ (.int .i8 0)).setCell ⟨b, 3, none⟩ (.int .u8 1)).setCell ⟨b, 4, none⟩ (.bool neg)).setCell ⟨b, 6, none⟩ (.int .i32 ex)) bx 82 (fC 2300 ax 1 neg (.slice A n' c) ex) := (((k2.set_far hbx 2 _).set_far hbx 3 _).set_far hbx 4 _).set_far hbx 6 _
  have hO1 : OwnN ((((w.setCell ⟨b, 2, none⟩ (.int .i8 0)).setCell ⟨b, 3, none⟩ (.int .u8 1)).setCell ⟨b, 4, none⟩ (.bool neg)).setCell ⟨b, 6, none⟩ (.int .i32 ex)) B m (.slice A n' c) := (((k3.setF k1 2 _).setF (k1.set 2 _) 3 _).setF ((k1.set 2 _).set 3 _) 4 _).setF (((k1.set 2 _).set 3 _).set 4 _) 6 _
  have hW1 : Below b w ((((w.setCell ⟨b, 2, none⟩ (.int .i8 0)).setCell ⟨b, 3, none⟩ (.int .u8 1)).setCell ⟨b, 4, none⟩ (.bool neg)).setCell ⟨b, 6, none⟩ (.int .i32 ex)) := ((((Below.refl b w).setCell (p := ⟨b, 2, none⟩) (Nat.le_refl _) _).setCell (p := ⟨b, 3, none⟩) (Nat.le_refl _) _).setCell (p := ⟨b, 4, none⟩) (Nat.le_refl _) _).setCell (p := ⟨b, 6, none⟩) (Nat.le_refl _) _
  obtain ⟨w1, hw1⟩ : ∃ W, (((w.setCell ⟨b, 2, none⟩ (.int .i8 0)).setCell ⟨b, 3, none⟩ (.int .u8 1)).setCell ⟨b, 4, none⟩ (.bool neg)).setCell ⟨b, 6, none⟩ (.int .i32 ex) = W := ⟨_, rfl⟩
  rw [hw1] at hb1 hx1 hO1 hW1 ⊢
  have H1 := Lib.hid (And.intro hb1 (And.intro hx1 (And.intro hO1 hW1)))
  have HS := Lib.hid (fun (W : World) (hW : Below w1.heap.size w1 W) => nset_calls (.slice none 0 0) (.slice A n' c) 0 m W W.heap.size B (.inl ⟨rfl, rfl⟩) (Nat.le_refl _) (H1.out.2.2.1.keep hW) 36 HL.out (by decide))
  clear hw1 hb1 hx1 hO1 hW1 k1 k2 k3 k4 x0 x1 x2 x3 x4 x5 x6 z0 z1 z2 z3 z4 z5 z6 f0 f1 f2 f3 f4 f5 f6 hneq1
  obtain ⟨x0, x1, x2, x3, x4, x5, x6⟩ := sev H1.out.2.1
  obtain ⟨z0, z1, z2, z3, z4, z5, z6⟩ := sev H1.out.1
  obtain ⟨f0, f1, f2, f3, f4, f5, f6⟩ := frz H1.out.1
  go_region_with (go_at_call 93; refine (HS.out _ (by repeat (first | exact Below.refl _ _ | (with_reducible apply below_drewN) | (with_reducible apply Below.drew)))).mono ?_; rintro e w2 ⟨v, rfl, hO2, hW2⟩; have hw2 := hO2; obtain ⟨g, Z, n2, rfl, hgB, hgb, hz, hn2, hl2, ht2, hv2⟩ := hO2.resolve_left (fun h => HB.out.2.2.2 h.2); have hwd := OwnN.words hw2 HB.out.2.2.2; have hb12 : Below w1.heap.size w1 w2 := Below.trans (by repeat (first | exact Below.refl _ _ | (with_reducible apply below_drewN) | (with_reducible apply Below.drew))) hW2; have H2 : Hid (Blk w2 b 82 (fP p 0 neg (.slice none 0 0) ex) ∧ Blk w2 bx 82 (fC 2300 ax 1 neg (.slice A n' c) ex) ∧ Blk w2 g 109 (i64s Z) ∧ (∀ d ∈ Z, d < B64) ∧ n2 ≤ Z.length ∧ Z.length ≤ 1099511627776 ∧ val B64 (Z.take n2) = m ∧ n2 = n' ∧ b < g ∧ Below b w w2) := ⟨H1.out.1.below' hb12, H1.out.2.1.below' hb12, hgb, hz, hn2, hl2, hv2, by have := HN.out.1; omega, Nat.lt_of_lt_of_le H1.out.1.lt hgB, H1.out.2.2.2.trans (hb12.mono (Nat.le_of_lt H1.out.1.lt))⟩; clear hw2 hgB hgb hz hn2 hl2 ht2 hv2 hwd hb12 hW2 hO2; obtain ⟨y0, y1, y2, y3, y4, y5, y6⟩ := sev H2.out.1; obtain ⟨g0, g1, g2, g3, g4, g5, g6⟩ := frz H2.out.1)
  all_goals (
    obtain rfl : n2 = n' := H2.out.2.2.2.2.2.2.2.1
    have hb3 : Blk (w2.setCell ⟨b, 5, none⟩ (.slice (some ⟨g, 0, none⟩) n2 Z.length)) b 82 (fP p 0 neg (.slice (some ⟨g, 0, none⟩) n2 Z.length) ex) := H2.out.1.set 5 _
    have hx3 : Blk (w2.setCell ⟨b, 5, none⟩ (.slice (some ⟨g, 0, none⟩) n2 Z.length)) bx 82 (fC 2300 ax 1 neg (.slice A n2 c) ex) := H2.out.2.1.set_far hbx 5 _
    have hg3 : Blk (w2.setCell ⟨b, 5, none⟩ (.slice (some ⟨g, 0, none⟩) n2 Z.length)) g 109 (i64s Z) := H2.out.2.2.1.set_far (Nat.ne_of_gt H2.out.2.2.2.2.2.2.2.2.1) 5 _
    have hW3 : Below b w (w2.setCell ⟨b, 5, none⟩ (.slice (some ⟨g, 0, none⟩) n2 Z.length)) := H2.out.2.2.2.2.2.2.2.2.2.setCell (p := ⟨b, 5, none⟩) (Nat.le_refl _) _
    obtain ⟨w3, hw3⟩ : ∃ W, w2.setCell ⟨b, 5, none⟩ (.slice (some ⟨g, 0, none⟩) n2 Z.length) = W := ⟨_, rfl⟩
    rw [hw3] at hb3 hx3 hg3 hW3 ⊢
    have H3 := Lib.hid (And.intro hb3 (And.intro hx3 (And.intro hg3 hW3)))
    clear hb3 hx3 hg3 hW3 hw3 x0 x1 x2 x3 x4 x5 x6 z0 z1 z2 z3 z4 z5 z6 f0 f1 f2 f3 f4 f5 f6 y0 y1 y2 y3 y4 y5 y6 g0 g1 g2 g3 g4 g5 g6
    obtain ⟨x0, x1, x2, x3, x4, x5, x6⟩ := sev H3.out.2.1
    obtain ⟨z0, z1, z2, z3, z4, z5, z6⟩ := sev H3.out.1
    have HRC := Lib.hid (fun (W : World) (hW : W.heap = w3.heap) => round_cut b g n2 p hv m Z 0 ex neg rest W (by unfold Blk; rw [hW]; exact H3.out.1) (by unfold Blk; rw [hW]; exact H3.out.2.2.1) H2.out.2.2.2.1 H2.out.2.2.2.2.1 H2.out.2.2.2.2.2.1 H2.out.2.2.2.2.2.2.1 HN.out.1 HN.out.2.1 HN.out.2.2.1 HN.out.2.2.2.1 HN.out.2.2.2.2.1 HN.out.2.2.2.2.2.1 HN.out.2.2.2.2.2.2.1 HN.out.2.2.2.2.2.2.2)
    go_wp2
    go_region
    all_goals (
      go_wp2_with fail
      refine (HRC.out _ (by rfl)).mono ?_
      rintro e w4 ⟨rfl, W, X, Z', r1, r2, r3, r4, r5, r6, r7⟩
      have H4 : Hid (WCut b p hv neg rest ex w4 ∧ Below b w w4) := ⟨⟨g, Z.length, W, X, r1, ⟨Z', r2, r3, r5, by rw [r4]; have := H2.out.2.2.2.2.1; have := HN.out.2.1; omega⟩, H2.out.2.2.2.2.2.1, r6⟩, by
        have e1 : min b g = b := Nat.min_eq_left (Nat.le_of_lt H2.out.2.2.2.2.2.2.2.2.1)
        rw [e1] at r7
        exact Below.trans (by repeat (first | exact H3.out.2.2.2 | (with_reducible apply below_drewN) | (with_reducible apply Below.drew))) r7⟩
      clear r1 r2 r3 r4 r5 r6 r7
      go_wp2
      go_ret
      exact ⟨rfl, H4.out.1, H4.out.2⟩))
end Go.Proofs.YtikdhkmcdmnadaaGreatFmt

namespace Go.Proofs.YtikdhkmcdmnadaaGreatFmt
open Go.RowKit
attribute [local go_sem ↓] Go.wp_at_zero Go.wp_at_succ

/-! ### Float64: the least numbers -/
def fRetA (u : Nat) (c : Int) : Ending := .returned (.tuple #[.float .f64 u, .int .i8 c])
theorem i32wi (x : Int) (h : -2147483648 ≤ x ∧ x ≤ 2147483647) : IntKind.i32.wrap x = x := by simp [IntKind.wrap, IntKind.bits, IntKind.signed]; omega
theorem retA {u : Nat} {c : Int} {u' : Nat} {c' : Int} (h1 : u = u') (h2 : c = c') : Ending.returned (.tuple #[.float .f64 u, .int .i8 c]) = fRetA u' c' := by subst h1 h2; rfl
set_option maxHeartbeats 4000000 in
set_option maxRecDepth 100000 in
theorem f64_under (bx : Nat) (ax ex : Int) (neg : Bool) (v : Value) (w : World) (hx : Blk w bx 82 (fC 2300 ax 1 neg v ex)) (hex : -20000 ≤ ex ∧ ex < -1074) :
    Calls Tryz.prog 56 #[.pointer (some ⟨bx, 0, none⟩)] w fun e w' => e = fRetA (wordR neg 0) (if neg then 1 else -1) ∧ ∃ q, w' = w.drewN q := by
  obtain ⟨x0, x1, x2, x3, x4, x5, x6⟩ := sev hx
  have u1 : IntKind.i32.wrap (ex - 1) = ex - 1 := i32wi _ (by omega)
  have u2 : ex - 1 < -1022 := by omega
  have u3 : IntKind.i64.wrap (ex - 1) = ex - 1 := IntWalk.i64_in _ (by omega)
  obtain ⟨y, hy⟩ : ∃ y, 1075 + (ex - 1) = y := ⟨_, rfl⟩
  have u4 : IntKind.i64.wrap y = y := IntWalk.i64_in _ (by omega)
  have u5 : y < 0 := by omega
  have hng : ∀ W, (Op.unary .neg (.float .f64 0)).run Tryz.prog W = .ok (.float .f64 9223372036854775808) W := fun _ => rfl
  clear hx hex
  cases neg
  all_goals (
    go_enter Tryz.func56, Tryz.ntmps56
    go_wp2
    go_quiet (fail)
    go_wp2
    go_ret2
    exact ⟨retA (by decide) rfl, _, rfl⟩)
set_option maxHeartbeats 4000000 in
set_option maxRecDepth 100000 in
theorem f64_edge (bx n m B : Nat) (ax : Int) (neg rest : Bool) (v : Value) (w : World) (hx : Blk w bx 82 (fC 2300 ax 1 neg v (-1074))) (hO : OwnN w B m v) (hbl : bl m = 64 * n) (h0 : 0 < n) (h35 : n ≤ 35) (hr : rest = restB (m % 2 ^ (64 * n - 1))) :
    Calls Tryz.prog 56 #[.pointer (some ⟨bx, 0, none⟩)] w fun e w' => e = fRetA (wordR neg rest.toNat) (if rest != neg then 1 else -1) ∧ ∃ q, w' = w.drewN q := by
  obtain ⟨x0, x1, x2, x3, x4, x5, x6⟩ := sev hx
  have hm0 : m ≠ 0 := by intro h; subst h; rw [bl_zero] at hbl; omega
  obtain ⟨A, n', c, xs, rfl, hl, hlc, hcb, hA, ht, hm, hne, hlt⟩ := hO.row
  have hw := hO.words hm0
  obtain rfl : n' = n := by omega
  obtain ⟨j, hj⟩ : ∃ j, 64 * n' - 1 = j := ⟨_, rfl⟩
  rw [hj] at hr
  have HSTK := Lib.hid (fun (W : World) (hW : ∃ q, W = w.drewN q) => nsticky_calls A n' c 109 w.heap.size j xs W hl (by obtain ⟨q, rfl⟩ := hW; exact hA) (by omega) (by omega) hlc hcb)
  rw [hm, ← hr] at HSTK
  have u1 : IntKind.u64.wrap (n' : Int) = n' := u64w n' (by omega)
  have u2 : IntKind.u64.wrap ((n' : Int) * 64) = (n' : Int) * 64 := by rw [IntKind.wrap_u64]; omega
  have u3 : IntKind.u64.wrap ((n' : Int) * 64 - 1) = (j : Int) := by rw [IntKind.wrap_u64]; omega
  have hng : ∀ W, (Op.unary .neg (.float .f64 0)).run Tryz.prog W = .ok (.float .f64 9223372036854775808) W := fun _ => rfl
  have u4 : IntKind.i32.wrap (-1075) = -1075 := by decide
  clear hx hO hbl h0 h35 hr hm0 hw hl hlc hcb hA ht hm hne hlt hj
  cases rest
  · cases neg
    all_goals (
      go_enter Tryz.func56, Tryz.ntmps56
      go_wp2
      go_quiet ((go_at_call 76; exact Calls.quiet_of_same ((HSTK.out _ ⟨_, rfl⟩).mono fun e w' h => ⟨h.1, h.2.symm⟩)))
      go_wp2
      go_ret2
      exact ⟨retA (by decide) rfl, _, rfl⟩)
  · cases neg
    all_goals (
      go_enter Tryz.func56, Tryz.ntmps56
      go_wp2
      go_quiet ((go_at_call 76; exact Calls.quiet_of_same ((HSTK.out _ ⟨_, rfl⟩).mono fun e w' h => ⟨h.1, h.2.symm⟩)))
      go_wp2
      go_ret2
      exact ⟨retA (by decide) rfl, _, rfl⟩)
set_option maxHeartbeats 4000000 in
set_option maxRecDepth 100000 in
theorem f64_zero (bx : Nat) (ax ex : Int) (neg : Bool) (v : Value) (w : World) (hx : Blk w bx 82 (fC 2300 ax 0 neg v ex)) :
    Calls Tryz.prog 56 #[.pointer (some ⟨bx, 0, none⟩)] w fun e w' => e = fRetA (wordR neg 0) 0 ∧ ∃ q, w' = w.drewN q := by
  obtain ⟨x0, x1, x2, x3, x4, x5, x6⟩ := sev hx
  have hng : ∀ W, (Op.unary .neg (.float .f64 0)).run Tryz.prog W = .ok (.float .f64 9223372036854775808) W := fun _ => rfl
  clear hx
  cases neg
  all_goals (
    go_enter Tryz.func56, Tryz.ntmps56
    go_wp2
    go_ret2
    exact ⟨retA (by decide) rfl, 0, rfl⟩)
end Go.Proofs.YtikdhkmcdmnadaaGreatFmt

namespace Go.Proofs.YtikdhkmcdmnadaaGreatFmt
open Go.RowKit
attribute [local go_sem ↓] Go.wp_at_zero Go.wp_at_succ

/-! ### Float64: rounded -/
theorem two_pred {p : Nat} (h : 0 < p) : 2 ^ p = 2 ^ (p - 1) * 2 := by
  have e := Nat.pow_succ (n := 2) (m := p - 1)
  rwa [show (p - 1).succ = p from by omega] at e
/-- what Set makes of r -/
theorem set_new (bx n p hv m B : Nat) (ax ex : Int) (neg rest : Bool) (v : Value) (w W : World) (hW : ∃ q, W = w.drewN q) (hx : Blk w bx 82 (fC 2300 ax 1 neg v ex)) (hO : OwnN w B m v)
    (hbl : bl m = 64 * n) (h0 : 0 < n) (h35 : n ≤ 35) (hp0 : 0 < p) (hp53 : p ≤ 53) (hex : -20000 ≤ ex ∧ ex ≤ 20000) (hh : hv = m / 2 ^ (64 * n - p - 1)) (hr : rest = restB (m % 2 ^ (64 * n - p - 1))) :
    Calls Tryz.prog 77 #[.pointer (some ⟨W.heap.size, 0, none⟩), .pointer (some ⟨bx, 0, none⟩)] (W.alloc (.cells #[.int .u32 p, .int .u8 0, .int .i8 0, .int .u8 0, .bool false, .slice none 0 0, .int .i32 0] 82)) fun e w' => e = .returned (.pointer (some ⟨W.heap.size, 0, none⟩)) ∧ WCut W.heap.size p hv neg rest ex w' ∧ Below w.heap.size w w' ∧ Blk w' bx 82 (fC 2300 ax 1 neg v ex) := by
  obtain ⟨q, rfl⟩ := hW
  have hb : Blk ((w.drewN q).alloc (.cells #[.int .u32 p, .int .u8 0, .int .i8 0, .int .u8 0, .bool false, .slice none 0 0, .int .i32 0] 82)) w.heap.size 82 (f0P p (.slice none 0 0)) := Blk.new (w.drewN q) _ _
  have hal2 : Below w.heap.size w ((w.drewN q).alloc (.cells #[.int .u32 p, .int .u8 0, .int .i8 0, .int .u8 0, .bool false, .slice none 0 0, .int .i32 0] 82)) := Below.trans (below_drewN (Below.refl _ w) q) (below_new (Below.refl (w.drewN q).heap.size (w.drewN q)) (.cells #[.int .u32 p, .int .u8 0, .int .i8 0, .int .u8 0, .bool false, .slice none 0 0, .int .i32 0] 82))
  have hlt := hx.lt
  refine (set_cut w.heap.size bx n p hv m B ax ex neg rest v _ hb (hx.below hal2 hlt) (hO.keep hal2) (by omega) hbl h0 h35 hp0 hp53 hex hh hr).mono ?_
  rintro e w' ⟨rfl, h1, h2⟩
  have h3 := Below.trans hal2 h2
  exact ⟨rfl, h1, h3, hx.below h3 hlt⟩
set_option maxHeartbeats 8000000 in
set_option maxRecDepth 100000 in
theorem f64_hi (bx n m B hv : Nat) (ax ex : Int) (neg rest : Bool) (v : Value) (w : World) (hx : Blk w bx 82 (fC 2300 ax 1 neg v ex)) (hO : OwnN w B m v)
    (hbl : bl m = 64 * n) (h0 : 0 < n) (h35 : n ≤ 35) (hex : -1021 ≤ ex ∧ ex ≤ 20000) (hh : hv = m / 2 ^ (64 * n - 53 - 1)) (hr : rest = restB (m % 2 ^ (64 * n - 53 - 1))) :
    Calls Tryz.prog 56 #[.pointer (some ⟨bx, 0, none⟩)] w fun e w' => e = fRetA (wordR neg (nearR hv rest (ex - (53 : Nat)))) (accR neg hv rest (ex - (53 : Nat))) ∧ Below w.heap.size w w' := by
  obtain ⟨x0, x1, x2, x3, x4, x5, x6⟩ := sev hx
  have HX := Lib.hid hx
  have u1 : IntKind.i32.wrap (ex - 1) = ex - 1 := i32wi _ (by omega)
  have u2 : ¬ ex - 1 < -1022 := by omega
  have HSET := Lib.hid (fun (W : World) (hW : ∃ q, W = w.drewN q) => set_new bx n 53 hv m B ax ex neg rest v w W hW hx hO hbl h0 h35 (by omega) (by omega) (by omega) hh hr)
  have htop := cut_top (n := n) (p := 53) (t := m / 2 ^ (64 * (n - 1))) hbl h0 (by omega) (by omega) rfl hh
  have HH := Lib.hid (And.intro htop.2.1 htop.2.2.1)
  have HEX := Lib.hid hex
  clear hx hO hbl h0 h35 hh hr htop
  go_enter Tryz.func56, Tryz.ntmps56
  go_wp2_with fail
  refine (HSET.out _ (⟨0, rfl⟩ : ∃ q, w = w.drewN q)).mono ?_
  rintro e w2 ⟨rfl, hc, hW2, hx2⟩
  obtain ⟨g, N, W, X, hb2, ⟨Z', hg2, hZW, hZ, hZl⟩, hN, hcase⟩ := hc
  have henc := enc_word (ex := ex) (X := X) (p := 53) (Q := hv / 2 + (moreH 0 false rest hv).toNat) (W := W) (R := r0R hv rest (ex - (53 : Nat))) (by omega) (by omega) (by
    have h1 := HH.out.1
    have : 2 ^ 53 = 2 ^ (53 - 1) * 2 := two_pred (by omega)
    omega) (by rcases hcase with h | h <;> omega) (by unfold r0R; rw [Nat.add_assoc]) hcase
  have hXb : X = ex ∨ X = ex + 1 := by rcases hcase with h | h; exact .inr h.2.1; exact .inl h.2.1
  have HZG := Lib.hid hZW
  have HBG := Lib.hid (And.intro hb2 (And.intro hg2 (And.intro hZ (And.intro hN (And.intro hW2 hZl)))))
  have HMS := Lib.hid (fun (W' : World) (hW' : W' = w2) => nmsb_calls (some ⟨g, 0, none⟩) 1 N 109 0 W (Z'.take 1) W' (by rw [List.length_take]; omega) (by subst hW'; exact u64row hg2 hZ 1) (by decide) (by decide) (by rw [List.getD_eq_getElem?_getD, List.getElem?_take, if_pos (by decide), ← List.getD_eq_getElem?_getD]; exact hZW))
  obtain ⟨R, hR⟩ : ∃ R, r0R hv rest (ex - (53 : Nat)) = R := ⟨_, rfl⟩
  rw [hR] at henc
  have HR := Lib.hid hR
  have HRET : Hid (∀ (u : Nat) (c : Int) , (R < INFR → u = wordR neg R ∧ c = accM neg rest hv) → (INFR ≤ R → u = wordR neg INFR ∧ c = if neg then -1 else 1) → Ending.returned (.tuple #[.float .f64 u, .int .i8 c]) = fRetA (wordR neg (nearR hv rest (ex - (53 : Nat)))) (accR neg hv rest (ex - (53 : Nat)))) := by
    intro u c h1 h2
    rcases Nat.lt_or_ge R INFR with h | h
    · obtain ⟨rfl, rfl⟩ := h1 h
      refine retA ?_ ?_
      · unfold nearR; rw [HR.out, Nat.min_eq_left (Nat.le_of_lt h)]
      · unfold accR accM; rw [HR.out, if_neg (Nat.not_le.2 h)]
    · obtain ⟨rfl, rfl⟩ := h2 h
      refine retA ?_ ?_
      · unfold nearR; rw [HR.out, Nat.min_eq_right h]
      · unfold accR; rw [HR.out, if_pos h]
  clear x0 x1 x2 x3 x4 x5 x6 u1 u2 hcase hR HSET
  obtain ⟨x0, x1, x2, x3, x4, x5, x6⟩ := sev hx2
  obtain ⟨y0, y1, y2, y3, y4, y5, y6⟩ := sev hb2
  have v1 : IntKind.i32.wrap (X - 1) = X - 1 := i32wi _ (by clear henc; omega)
  clear hb2 hg2 hZW hZ hZl hN hW2 hx2
  by_cases hov : 1024 < X
  · have c1 : (1023 : Int) < X - 1 := by clear henc; omega
    have hRI := henc.1.1 hov
    have HRI := Lib.hid hRI
    clear henc hRI hXb
    cases neg
    · go_wp2_with fail
      refine (inf_up _).mono ?_
      rintro e w' ⟨rfl, rfl⟩
      go_wp2
      go_ret2
      exact ⟨HRET.out _ _ (fun h => by have := HRI.out; omega) (fun _ => ⟨by decide, rfl⟩), HBG.out.2.2.2.2.1⟩
    · go_wp2_with fail
      refine (inf_down _).mono ?_
      rintro e w' ⟨rfl, rfl⟩
      go_wp2
      go_ret2
      exact ⟨HRET.out _ _ (fun h => by have := HRI.out; omega) (fun _ => ⟨by decide, rfl⟩), HBG.out.2.2.2.2.1⟩
  · obtain ⟨hR1, hR2⟩ := henc.2.2 (by clear henc; omega) (by clear henc; omega)
    have c1 : ¬ (1023 : Int) < X - 1 := by clear henc; omega
    have c2 : ¬ X - 1 < -1022 := by clear henc; omega
    clear henc
    obtain ⟨k, hk⟩ : ∃ k, (X + 1022).toNat = k := ⟨_, rfl⟩
    rw [hk] at hR1
    have v2 : X - 1 + 1023 = (k : Int) := by omega
    have v3 : IntKind.i32.wrap (k : Int) = k := i32wi _ (by omega)
    have v4 : IntKind.u64.wrap (k : Int) = k := u64w k (by omega)
    obtain ⟨kb, hkb⟩ : ∃ z, k * 4503599627370496 = z := ⟨_, rfl⟩
    have v5 : IntKind.u64.wrap ((k : Int) * 4503599627370496) = (kb : Int) := by rw [IntKind.wrap_u64]; omega
    obtain ⟨wq, hwq⟩ : ∃ z, W / 2048 = z := ⟨_, rfl⟩
    have v6 : (W : Int) / 2048 = (wq : Int) := by omega
    obtain ⟨fr, hfr⟩ : ∃ z, wq % 4503599627370496 = z := ⟨_, rfl⟩
    have hWb : W < 18446744073709551616 := by have := HBG.out.2.1; have h2 := getD_mem_lt HBG.out.2.2.1 HBG.out.2.2.2.2.2; rw [HZG.out] at h2; simpa [B64] using h2
    have v7 : bits .and .u64 (wq : Int) 4503599627370495 = (fr : Int) := by
      rw [show (4503599627370495 : Int) = ((2 ^ 52 - 1 : Nat) : Int) from by decide, u64_and_nat _ _ (by omega) (by decide), Nat.and_two_pow_sub_one_eq_mod]
      exact congrArg (fun z : Nat => (z : Int)) hfr
    have hR3 : R = kb + fr := by rw [hR1, hkb, hwq, hfr]
    have v8 : bits .or .u64 0 (kb : Int) = (kb : Int) := by
      rw [show (0 : Int) = ((0 : Nat) : Int) from rfl, u64_or_nat _ _ (by decide) (by omega), Nat.zero_or]
    have v9 : bits .or .u64 (kb : Int) (fr : Int) = (R : Int) := by
      rw [u64_or_nat _ _ (by omega) (by omega), Nat.or_comm, or_add_low (r := 52) (by omega) (by omega), hR3, Nat.add_comm]
    obtain ⟨k2, hk2⟩ : ∃ z, 9223372036854775808 + kb = z := ⟨_, rfl⟩
    have va : bits .or .u64 9223372036854775808 (kb : Int) = (k2 : Int) := by
      rw [show (9223372036854775808 : Int) = ((9223372036854775808 : Nat) : Int) from rfl, u64_or_nat _ _ (by decide) (by omega), Nat.or_comm, or_add_low (r := 63) (by omega) (by decide)]; omega
    obtain ⟨R2, hR4⟩ : ∃ z, R + 9223372036854775808 = z := ⟨_, rfl⟩
    have vb : bits .or .u64 (k2 : Int) (fr : Int) = (R2 : Int) := by
      rw [u64_or_nat _ _ (by omega) (by omega), Nat.or_comm, or_add_low (r := 52) (by omega) (by omega)]; omega
    have HR2 := Lib.hid (And.intro hR2 hR4)
    clear hXb hR1 hR2 hk hkb hwq hfr hWb hR3 hk2 hR4
    cases neg
    · go_wp2_with fail
      refine (HMS.out _ rfl).mono ?_
      rintro e w' ⟨rfl, rfl⟩
      go_wp2
      go_quiet (fail)
      go_wp2
      go_ret2
      exact ⟨HRET.out _ _ (fun h => ⟨rfl, rfl⟩) (fun h => by have := HR2.out.1; omega), below_drewN HBG.out.2.2.2.2.1 _⟩
    · go_wp2_with fail
      refine (HMS.out _ rfl).mono ?_
      rintro e w' ⟨rfl, rfl⟩
      go_wp2
      go_quiet (fail)
      go_wp2
      go_ret2
      exact ⟨HRET.out _ _ (fun h => ⟨HR2.out.2.symm, rfl⟩) (fun h => by have := HR2.out.1; omega), below_drewN HBG.out.2.2.2.2.1 _⟩
end Go.Proofs.YtikdhkmcdmnadaaGreatFmt

namespace Go.Proofs.YtikdhkmcdmnadaaGreatFmt
open Go.RowKit
attribute [local go_sem ↓] Go.wp_at_zero Go.wp_at_succ

/-! ### Float64: rounded -/
set_option maxHeartbeats 8000000 in
set_option maxRecDepth 100000 in
theorem f64_lo (bx n m B hv : Nat) (ax ex : Int) (neg rest : Bool) (v : Value) (w : World) (hx : Blk w bx 82 (fC 2300 ax 1 neg v ex)) (hO : OwnN w B m v)
    (hbl : bl m = 64 * n) (h0 : 0 < n) (h35 : n ≤ 35) (hex : -20000 ≤ ex ∧ ex < -1021) (p : Nat) (hp : (p : Int) = ex + 1074) (hp0 : 0 < p) (hh : hv = m / 2 ^ (64 * n - p - 1)) (hr : rest = restB (m % 2 ^ (64 * n - p - 1))) :
    Calls Tryz.prog 56 #[.pointer (some ⟨bx, 0, none⟩)] w fun e w' => e = fRetA (wordR neg (nearR hv rest (ex - (p : Nat)))) (accR neg hv rest (ex - (p : Nat))) ∧ Below w.heap.size w w' := by
  obtain ⟨x0, x1, x2, x3, x4, x5, x6⟩ := sev hx
  have HX := Lib.hid hx
  have u1 : IntKind.i32.wrap (ex - 1) = ex - 1 := i32wi _ (by omega)
  have u2 : ex - 1 < -1022 := by omega
  have u3 : IntKind.i64.wrap (ex - 1) = ex - 1 := IntWalk.i64_in _ (by omega)
  obtain ⟨y, hy⟩ : ∃ y : Int, y = (p : Int) := ⟨_, rfl⟩
  have u4 : 1075 + (ex - 1) = y := by omega
  have u5 : IntKind.i64.wrap y = y := IntWalk.i64_in _ (by omega)
  have u6 : (y == 0) = false := by simp; omega
  have u7 : IntKind.u32.wrap y = y := by rw [hy]; exact u32w p (by omega)
  have u8 : ¬ y < 0 := by omega
  have HY := Lib.hid hy
  have HP := Lib.hid (And.intro hp hp0)
  have HSET := Lib.hid (fun (W : World) (hW : ∃ q, W = w.drewN q) => set_new bx n p hv m B ax ex neg rest v w W hW hx hO hbl h0 h35 (by omega) (by omega) (by omega) hh hr)
  have htop := cut_top (n := n) (p := p) (t := m / 2 ^ (64 * (n - 1))) hbl h0 (by omega) (by omega) rfl hh
  have HH := Lib.hid (And.intro htop.2.1 htop.2.2.1)
  have HEX := Lib.hid hex
  clear hx hO hbl h0 h35 hh hr htop
  clear hy hp hp0
  go_enter Tryz.func56, Tryz.ntmps56
  go_wp2
  have u9 : decide (y < 0) = false := decide_eq_false (by omega)
  go_quiet (fail)
  obtain ⟨w1, hw1⟩ : ∃ W, w.drewN nq = W := ⟨_, rfl⟩
  rw [hw1]
  have HQ1 : Hid (∃ q, w1 = w.drewN q) := ⟨nq, hw1.symm⟩
  have z0 : w1.cell? ⟨bx, 0, none⟩ = some (.int .u32 2300) := by rw [← hw1]; exact x0
  clear hw1
  go_wp2_with fail
  obtain rfl := HY.out
  refine (HSET.out w1 HQ1.out).mono ?_
  rintro e w2 ⟨rfl, hc, hW2, hx2⟩
  obtain ⟨hp, hp0⟩ := HP.out
  obtain ⟨g, N, W, X, hb2, ⟨Z', hg2, hZW, hZ, hZl⟩, hN, hcase⟩ := hc
  have henc := enc_word (ex := ex) (X := X) (p := p) (Q := hv / 2 + (moreH 0 false rest hv).toNat) (W := W) (R := r0R hv rest (ex - (p : Nat))) (by omega) (by omega) (by
    have h1 := HH.out.1
    have : 2 ^ p = 2 ^ (p - 1) * 2 := two_pred (by omega)
    omega) (by rcases hcase with h | h <;> omega) (by unfold r0R; rw [Nat.add_assoc]) hcase
  have hXb : X = ex ∨ X = ex + 1 := by rcases hcase with h | h; exact .inr h.2.1; exact .inl h.2.1
  have HZG := Lib.hid hZW
  have HBG := Lib.hid (And.intro hb2 (And.intro hg2 (And.intro hZ (And.intro hN (And.intro hW2 hZl)))))
  have HMS := Lib.hid (fun (W' : World) (hW' : W' = w2) => nmsb_calls (some ⟨g, 0, none⟩) 1 N 109 0 W (Z'.take 1) W' (by rw [List.length_take]; omega) (by subst hW'; exact u64row hg2 hZ 1) (by decide) (by decide) (by rw [List.getD_eq_getElem?_getD, List.getElem?_take, if_pos (by decide), ← List.getD_eq_getElem?_getD]; exact hZW))
  obtain ⟨R, hR⟩ : ∃ R, r0R hv rest (ex - (p : Nat)) = R := ⟨_, rfl⟩
  rw [hR] at henc
  have HR := Lib.hid hR
  have HRET : Hid (∀ (u : Nat) (c : Int) , (R < INFR → u = wordR neg R ∧ c = accM neg rest hv) → (INFR ≤ R → u = wordR neg INFR ∧ c = if neg then -1 else 1) → Ending.returned (.tuple #[.float .f64 u, .int .i8 c]) = fRetA (wordR neg (nearR hv rest (ex - (p : Nat)))) (accR neg hv rest (ex - (p : Nat)))) := by
    intro u c h1 h2
    rcases Nat.lt_or_ge R INFR with h | h
    · obtain ⟨rfl, rfl⟩ := h1 h
      refine retA ?_ ?_
      · unfold nearR; rw [HR.out, Nat.min_eq_left (Nat.le_of_lt h)]
      · unfold accR accM; rw [HR.out, if_neg (Nat.not_le.2 h)]
    · obtain ⟨rfl, rfl⟩ := h2 h
      refine retA ?_ ?_
      · unfold nearR; rw [HR.out, Nat.min_eq_right h]
      · unfold accR; rw [HR.out, if_pos h]
  clear x0 x1 x2 x3 x4 x5 x6 u1 u2 u3 u4 u5 u6 hcase hR HSET
  obtain ⟨x0, x1, x2, x3, x4, x5, x6⟩ := sev hx2
  obtain ⟨y0, y1, y2, y3, y4, y5, y6⟩ := sev hb2
  have v1 : IntKind.i32.wrap (X - 1) = X - 1 := i32wi _ (by clear henc; omega)
  clear hb2 hg2 hZW hZ hZl hN hW2 hx2
  by_cases hov : X < -1021
  · obtain ⟨p2, hp2, hp3, hp4, hR1, hR2⟩ := henc.2.1 hov
    have c1 : ¬ (1023 : Int) < X - 1 := by clear henc; omega
    have c2 : X - 1 < -1022 := by clear henc; omega
    clear henc
    have v2 : IntKind.i64.wrap (X - 1) = X - 1 := IntWalk.i64_in _ (by omega)
    have v3 : 1075 + (X - 1) = (p2 : Int) := by omega
    have v4 : IntKind.i64.wrap (p2 : Int) = p2 := IntWalk.i64_in _ (by omega)
    obtain ⟨s2, hs2⟩ : ∃ z, 64 - p2 = z := ⟨_, rfl⟩
    have v5 : (64 : Int) - (p2 : Int) = (s2 : Int) := by omega
    have v6 : IntKind.i64.wrap (s2 : Int) = s2 := IntWalk.i64_in _ (by omega)
    have v7 : IntKind.u64.wrap (s2 : Int) = s2 := u64w s2 (by omega)
    have v8 : (s2 : Int) < 64 := by omega
    rw [hs2] at hR1
    have v9 : (W : Int) / 2 ^ s2 = (R : Int) := by rw [shr_nat W s2, hR1]
    have va : bits .or .u64 0 0 = 0 := by decide
    have vb : bits .or .u64 9223372036854775808 0 = 9223372036854775808 := by decide
    have vc : bits .or .u64 0 (R : Int) = (R : Int) := by
      rw [show (0 : Int) = ((0 : Nat) : Int) from rfl, u64_or_nat _ _ (by decide) (by omega), Nat.zero_or]
    obtain ⟨R2, hR4⟩ : ∃ z, R + 9223372036854775808 = z := ⟨_, rfl⟩
    have vd : bits .or .u64 9223372036854775808 (R : Int) = (R2 : Int) := by
      rw [show (9223372036854775808 : Int) = ((9223372036854775808 : Nat) : Int) from rfl, u64_or_nat _ _ (by decide) (by omega), Nat.or_comm, or_add_low (r := 63) (by omega) (by decide)]; omega
    have HR2 := Lib.hid (And.intro hR2 hR4)
    clear hXb hR1 hR2 hp2 hp3 hp4 hs2 hR4 hp hp0
    cases neg
    · go_wp2_with fail
      refine (HMS.out _ rfl).mono ?_
      rintro e w' ⟨rfl, rfl⟩
      go_wp2
      go_quiet (fail)
      go_wp2
      go_ret2
      exact ⟨HRET.out _ _ (fun h => ⟨rfl, rfl⟩) (fun h => by have := HR2.out.1; simp only [INFR] at h; omega), below_drewN HBG.out.2.2.2.2.1 _⟩
    · go_wp2_with fail
      refine (HMS.out _ rfl).mono ?_
      rintro e w' ⟨rfl, rfl⟩
      go_wp2
      go_quiet (fail)
      go_wp2
      go_ret2
      exact ⟨HRET.out _ _ (fun h => ⟨HR2.out.2.symm, rfl⟩) (fun h => by have := HR2.out.1; simp only [INFR] at h; omega), below_drewN HBG.out.2.2.2.2.1 _⟩
  · obtain ⟨hR1, hR2⟩ := henc.2.2 (by clear henc; omega) (by clear henc; omega)
    have c1 : ¬ (1023 : Int) < X - 1 := by clear henc; omega
    have c2 : ¬ X - 1 < -1022 := by clear henc; omega
    clear henc
    obtain ⟨k, hk⟩ : ∃ k, (X + 1022).toNat = k := ⟨_, rfl⟩
    rw [hk] at hR1
    have v2 : X - 1 + 1023 = (k : Int) := by omega
    have v3 : IntKind.i32.wrap (k : Int) = k := i32wi _ (by omega)
    have v4 : IntKind.u64.wrap (k : Int) = k := u64w k (by omega)
    obtain ⟨kb, hkb⟩ : ∃ z, k * 4503599627370496 = z := ⟨_, rfl⟩
    have v5 : IntKind.u64.wrap ((k : Int) * 4503599627370496) = (kb : Int) := by rw [IntKind.wrap_u64]; omega
    obtain ⟨wq, hwq⟩ : ∃ z, W / 2048 = z := ⟨_, rfl⟩
    have v6 : (W : Int) / 2048 = (wq : Int) := by omega
    obtain ⟨fr, hfr⟩ : ∃ z, wq % 4503599627370496 = z := ⟨_, rfl⟩
    have hWb : W < 18446744073709551616 := by have := HBG.out.2.1; have h2 := getD_mem_lt HBG.out.2.2.1 HBG.out.2.2.2.2.2; rw [HZG.out] at h2; simpa [B64] using h2
    have v7 : bits .and .u64 (wq : Int) 4503599627370495 = (fr : Int) := by
      rw [show (4503599627370495 : Int) = ((2 ^ 52 - 1 : Nat) : Int) from by decide, u64_and_nat _ _ (by omega) (by decide), Nat.and_two_pow_sub_one_eq_mod]
      exact congrArg (fun z : Nat => (z : Int)) hfr
    have hR3 : R = kb + fr := by rw [hR1, hkb, hwq, hfr]
    have v8 : bits .or .u64 0 (kb : Int) = (kb : Int) := by
      rw [show (0 : Int) = ((0 : Nat) : Int) from rfl, u64_or_nat _ _ (by decide) (by omega), Nat.zero_or]
    have v9 : bits .or .u64 (kb : Int) (fr : Int) = (R : Int) := by
      rw [u64_or_nat _ _ (by omega) (by omega), Nat.or_comm, or_add_low (r := 52) (by omega) (by omega), hR3, Nat.add_comm]
    obtain ⟨k2, hk2⟩ : ∃ z, 9223372036854775808 + kb = z := ⟨_, rfl⟩
    have va : bits .or .u64 9223372036854775808 (kb : Int) = (k2 : Int) := by
      rw [show (9223372036854775808 : Int) = ((9223372036854775808 : Nat) : Int) from rfl, u64_or_nat _ _ (by decide) (by omega), Nat.or_comm, or_add_low (r := 63) (by omega) (by decide)]; omega
    obtain ⟨R2, hR4⟩ : ∃ z, R + 9223372036854775808 = z := ⟨_, rfl⟩
    have vb : bits .or .u64 (k2 : Int) (fr : Int) = (R2 : Int) := by
      rw [u64_or_nat _ _ (by omega) (by omega), Nat.or_comm, or_add_low (r := 52) (by omega) (by omega)]; omega
    have HR2 := Lib.hid (And.intro hR2 hR4)
    clear hXb hR1 hR2 hp hp0 hk hkb hwq hfr hWb hR3 hk2 hR4
    cases neg
    · go_wp2_with fail
      refine (HMS.out _ rfl).mono ?_
      rintro e w' ⟨rfl, rfl⟩
      go_wp2
      go_quiet (fail)
      go_wp2
      go_ret2
      exact ⟨HRET.out _ _ (fun h => ⟨rfl, rfl⟩) (fun h => by have := HR2.out.1; omega), below_drewN HBG.out.2.2.2.2.1 _⟩
    · go_wp2_with fail
      refine (HMS.out _ rfl).mono ?_
      rintro e w' ⟨rfl, rfl⟩
      go_wp2
      go_quiet (fail)
      go_wp2
      go_ret2
      exact ⟨HRET.out _ _ (fun h => ⟨HR2.out.2.symm, rfl⟩) (fun h => by have := HR2.out.1; omega), below_drewN HBG.out.2.2.2.2.1 _⟩
end Go.Proofs.YtikdhkmcdmnadaaGreatFmt
