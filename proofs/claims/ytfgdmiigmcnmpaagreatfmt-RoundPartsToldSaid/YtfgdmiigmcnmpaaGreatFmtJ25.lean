/- Walks and plain laws of this seat's functions, part 25: G19 G20 G20b G13 G13b. -/
import Derived.Deep.CutBlock
import Derived.Test.YtfgdmiigmcnmpaaGreatFmtJ22
import Derived.Test.YtfgdmiigmcnmpaaGreatFmtJ24
set_option linter.unusedVariables false
set_option linter.unusedSimpArgs false
namespace Go.Proofs.YtfgdmiigmcnmpaaGreatFmt
open Go.RowKit
attribute [local go_sem ↓] Go.wp_at_zero Go.wp_at_succ

/-! ### Float64: the least numbers -/
def fRetA (u : Nat) (c : Int) : Ending := .returned (.tuple #[.float .f64 u, .int .i8 c])
theorem i32wi (x : Int) (h : -2147483648 ≤ x ∧ x ≤ 2147483647) : IntKind.i32.wrap x = x := by simp [IntKind.wrap, IntKind.bits, IntKind.signed]; omega
theorem retA {u : Nat} {c : Int} {u' : Nat} {c' : Int} (h1 : u = u') (h2 : c = c') : Ending.returned (.tuple #[.float .f64 u, .int .i8 c]) = fRetA u' c' := by subst h1 h2; rfl
set_option maxHeartbeats 4000000 in
set_option maxRecDepth 100000 in
theorem f64_under (bx : Nat) (ax ex : Int) (neg : Bool) (v : Value) (w : World) (hx : Blk w bx 64 (fC 2300 ax 1 neg v ex)) (hex : -20000 ≤ ex ∧ ex < -1074) :
    Calls Tryz.prog 83 #[.pointer (some ⟨bx, 0, none⟩)] w fun e w' => e = fRetA (wordR neg 0) (if neg then 1 else -1) ∧ ∃ q, w' = w.drewN q := by
  obtain ⟨x0, x1, x2, x3, x4, x5, x6⟩ := sev hx
  have u1 : IntKind.i32.wrap (ex - 1) = ex - 1 := i32wi _ (by omega)
  have u2 : ex - 1 < -1022 := by omega
  have u3 : IntKind.i64.wrap (ex - 1) = ex - 1 := IntWalk.i64_in _ (by omega)
  obtain ⟨y, hy⟩ : ∃ y, 1075 + (ex - 1) = y := ⟨_, rfl⟩
  have u4 : IntKind.i64.wrap y = y := IntWalk.i64_in _ (by omega)
  have u5 : y < 0 := by omega
  have hng : ∀ W, (Op.unary .neg (.float .f64 0)).run Tryz.prog W = .ok (.float .f64 9223372036854775808) W := fun _ => rfl
  clear hx hex
  cases neg
  all_goals (
    go_enter Tryz.func83, Tryz.ntmps83
    go_wp2
    go_quiet (fail)
    go_wp2
    go_ret2
    exact ⟨retA (by decide) rfl, _, rfl⟩)
set_option maxHeartbeats 4000000 in
set_option maxRecDepth 100000 in
theorem f64_edge (bx n m B : Nat) (ax : Int) (neg rest : Bool) (v : Value) (w : World) (hx : Blk w bx 64 (fC 2300 ax 1 neg v (-1074))) (hO : OwnN w B m v) (hbl : bl m = 64 * n) (h0 : 0 < n) (h35 : n ≤ 35) (hr : rest = restB (m % 2 ^ (64 * n - 1))) :
    Calls Tryz.prog 83 #[.pointer (some ⟨bx, 0, none⟩)] w fun e w' => e = fRetA (wordR neg rest.toNat) (if rest != neg then 1 else -1) ∧ ∃ q, w' = w.drewN q := by
  obtain ⟨x0, x1, x2, x3, x4, x5, x6⟩ := sev hx
  have hm0 : m ≠ 0 := by intro h; subst h; rw [bl_zero] at hbl; omega
  obtain ⟨A, n', c, xs, rfl, hl, hlc, hcb, hA, ht, hm, hne, hlt⟩ := hO.row
  have hw := hO.words hm0
  obtain rfl : n' = n := by omega
  obtain ⟨j, hj⟩ : ∃ j, 64 * n' - 1 = j := ⟨_, rfl⟩
  rw [hj] at hr
  have HSTK := Lib.hid (fun (W : World) (hW : ∃ q, W = w.drewN q) => nsticky_calls A n' c 106 w.heap.size j xs W hl (by obtain ⟨q, rfl⟩ := hW; exact hA) (by omega) (by omega) hlc hcb)
  rw [hm, ← hr] at HSTK
  have u1 : IntKind.u64.wrap (n' : Int) = n' := u64w n' (by omega)
  have u2 : IntKind.u64.wrap ((n' : Int) * 64) = (n' : Int) * 64 := by rw [IntKind.wrap_u64]; omega
  have u3 : IntKind.u64.wrap ((n' : Int) * 64 - 1) = (j : Int) := by rw [IntKind.wrap_u64]; omega
  have hng : ∀ W, (Op.unary .neg (.float .f64 0)).run Tryz.prog W = .ok (.float .f64 9223372036854775808) W := fun _ => rfl
  have u4 : IntKind.i32.wrap (-1075) = -1075 := by decide
  clear hx hO hbl h0 h35 hr hm0 hw hl hlc hcb hA ht hm hne hlt hj
  cases rest
  · cases neg
    all_goals (
      go_enter Tryz.func83, Tryz.ntmps83
      go_wp2
      go_quiet ((go_at_call 89; exact Calls.quiet_of_same ((HSTK.out _ ⟨_, rfl⟩).mono fun e w' h => ⟨h.1, h.2.symm⟩)))
      go_wp2
      go_ret2
      exact ⟨retA (by decide) rfl, _, rfl⟩)
  · cases neg
    all_goals (
      go_enter Tryz.func83, Tryz.ntmps83
      go_wp2
      go_quiet ((go_at_call 89; exact Calls.quiet_of_same ((HSTK.out _ ⟨_, rfl⟩).mono fun e w' h => ⟨h.1, h.2.symm⟩)))
      go_wp2
      go_ret2
      exact ⟨retA (by decide) rfl, _, rfl⟩)
set_option maxHeartbeats 4000000 in
set_option maxRecDepth 100000 in
theorem f64_zero (bx : Nat) (ax ex : Int) (neg : Bool) (v : Value) (w : World) (hx : Blk w bx 64 (fC 2300 ax 0 neg v ex)) :
    Calls Tryz.prog 83 #[.pointer (some ⟨bx, 0, none⟩)] w fun e w' => e = fRetA (wordR neg 0) 0 ∧ ∃ q, w' = w.drewN q := by
  obtain ⟨x0, x1, x2, x3, x4, x5, x6⟩ := sev hx
  have hng : ∀ W, (Op.unary .neg (.float .f64 0)).run Tryz.prog W = .ok (.float .f64 9223372036854775808) W := fun _ => rfl
  clear hx
  cases neg
  all_goals (
    go_enter Tryz.func83, Tryz.ntmps83
    go_wp2
    go_ret2
    exact ⟨retA (by decide) rfl, 0, rfl⟩)
end Go.Proofs.YtfgdmiigmcnmpaaGreatFmt

namespace Go.Proofs.YtfgdmiigmcnmpaaGreatFmt
open Go.RowKit
attribute [local go_sem ↓] Go.wp_at_zero Go.wp_at_succ

/-! ### Float64: rounded -/
theorem two_pred {p : Nat} (h : 0 < p) : 2 ^ p = 2 ^ (p - 1) * 2 := by
  have e := Nat.pow_succ (n := 2) (m := p - 1)
  rwa [show (p - 1).succ = p from by omega] at e
/-- what Set makes of r -/
theorem set_new (bx n p hv m B : Nat) (ax ex : Int) (neg rest : Bool) (v : Value) (w W : World) (hW : ∃ q, W = w.drewN q) (hx : Blk w bx 64 (fC 2300 ax 1 neg v ex)) (hO : OwnN w B m v)
    (hbl : bl m = 64 * n) (h0 : 0 < n) (h35 : n ≤ 35) (hp0 : 0 < p) (hp53 : p ≤ 53) (hex : -20000 ≤ ex ∧ ex ≤ 20000) (hh : hv = m / 2 ^ (64 * n - p - 1)) (hr : rest = restB (m % 2 ^ (64 * n - p - 1))) :
    Calls Tryz.prog 86 #[.pointer (some ⟨W.heap.size, 0, none⟩), .pointer (some ⟨bx, 0, none⟩)] (W.alloc (.cells #[.int .u32 p, .int .u8 0, .int .i8 0, .int .u8 0, .bool false, .slice none 0 0, .int .i32 0] 64)) fun e w' => e = .returned (.pointer (some ⟨W.heap.size, 0, none⟩)) ∧ WCut W.heap.size p hv neg rest ex w' ∧ Below w.heap.size w w' ∧ Blk w' bx 64 (fC 2300 ax 1 neg v ex) := by
  obtain ⟨q, rfl⟩ := hW
  have hb : Blk ((w.drewN q).alloc (.cells #[.int .u32 p, .int .u8 0, .int .i8 0, .int .u8 0, .bool false, .slice none 0 0, .int .i32 0] 64)) w.heap.size 64 (f0P p (.slice none 0 0)) := Blk.new (w.drewN q) _ _
  have hal2 : Below w.heap.size w ((w.drewN q).alloc (.cells #[.int .u32 p, .int .u8 0, .int .i8 0, .int .u8 0, .bool false, .slice none 0 0, .int .i32 0] 64)) := Below.trans (below_drewN (Below.refl _ w) q) (below_new (Below.refl (w.drewN q).heap.size (w.drewN q)) (.cells #[.int .u32 p, .int .u8 0, .int .i8 0, .int .u8 0, .bool false, .slice none 0 0, .int .i32 0] 64))
  have hlt := hx.lt
  refine (set_cut w.heap.size bx n p hv m B ax ex neg rest v _ hb (hx.below hal2 hlt) (hO.keep hal2) (by omega) hbl h0 h35 hp0 hp53 hex hh hr).mono ?_
  rintro e w' ⟨rfl, h1, h2⟩
  have h3 := Below.trans hal2 h2
  exact ⟨rfl, h1, h3, hx.below h3 hlt⟩
set_option maxHeartbeats 8000000 in
set_option maxRecDepth 100000 in
theorem f64_hi (bx n m B hv : Nat) (ax ex : Int) (neg rest : Bool) (v : Value) (w : World) (hx : Blk w bx 64 (fC 2300 ax 1 neg v ex)) (hO : OwnN w B m v)
    (hbl : bl m = 64 * n) (h0 : 0 < n) (h35 : n ≤ 35) (hex : -1021 ≤ ex ∧ ex ≤ 20000) (hh : hv = m / 2 ^ (64 * n - 53 - 1)) (hr : rest = restB (m % 2 ^ (64 * n - 53 - 1))) :
    Calls Tryz.prog 83 #[.pointer (some ⟨bx, 0, none⟩)] w fun e w' => e = fRetA (wordR neg (nearR hv rest (ex - (53 : Nat)))) (accR neg hv rest (ex - (53 : Nat))) ∧ Below w.heap.size w w' := by
  obtain ⟨x0, x1, x2, x3, x4, x5, x6⟩ := sev hx
  have HX := Lib.hid hx
  have u1 : IntKind.i32.wrap (ex - 1) = ex - 1 := i32wi _ (by omega)
  have u2 : ¬ ex - 1 < -1022 := by omega
  have HSET := Lib.hid (fun (W : World) (hW : ∃ q, W = w.drewN q) => set_new bx n 53 hv m B ax ex neg rest v w W hW hx hO hbl h0 h35 (by omega) (by omega) (by omega) hh hr)
  have htop := cut_top (n := n) (p := 53) (t := m / 2 ^ (64 * (n - 1))) hbl h0 (by omega) (by omega) rfl hh
  have HH := Lib.hid (And.intro htop.2.1 htop.2.2.1)
  have HEX := Lib.hid hex
  clear hx hO hbl h0 h35 hh hr htop
  go_enter Tryz.func83, Tryz.ntmps83
  go_wp2_with fail
  refine (HSET.out _ (⟨0, rfl⟩ : ∃ q, w = w.drewN q)).mono ?_
  rintro e w2 ⟨rfl, hc, hW2, hx2⟩
  obtain ⟨g, N, W, X, hb2, ⟨Z', hg2, hZW, hZ, hZl⟩, hN, hcase⟩ := hc
  have henc := enc_word (ex := ex) (X := X) (p := 53) (Q := hv / 2 + (moreH 0 false rest hv).toNat) (W := W) (R := r0R hv rest (ex - (53 : Nat))) (by omega) (by omega) (by
    have h1 := HH.out.1
    have : 2 ^ 53 = 2 ^ (53 - 1) * 2 := two_pred (by omega)
    omega) (by rcases hcase with h | h <;> omega) (by unfold r0R; rw [Nat.add_assoc]) hcase
  have hXb : X = ex ∨ X = ex + 1 := by rcases hcase with h | h; exact .inr h.2.1; exact .inl h.2.1
  have HZG := Lib.hid hZW
  have HBG := Lib.hid (And.intro hb2 (And.intro hg2 (And.intro hZ (And.intro hN (And.intro hW2 hZl)))))
  have HMS := Lib.hid (fun (W' : World) (hW' : W' = w2) => nmsb_calls (some ⟨g, 0, none⟩) 1 N 106 0 W (Z'.take 1) W' (by rw [List.length_take]; omega) (by subst hW'; exact u64row hg2 hZ 1) (by decide) (by decide) (by rw [List.getD_eq_getElem?_getD, List.getElem?_take, if_pos (by decide), ← List.getD_eq_getElem?_getD]; exact hZW))
  obtain ⟨R, hR⟩ : ∃ R, r0R hv rest (ex - (53 : Nat)) = R := ⟨_, rfl⟩
  rw [hR] at henc
  have HR := Lib.hid hR
  have HRET : Hid (∀ (u : Nat) (c : Int) , (R < INFR → u = wordR neg R ∧ c = accM neg rest hv) → (INFR ≤ R → u = wordR neg INFR ∧ c = if neg then -1 else 1) → Ending.returned (.tuple #[.float .f64 u, .int .i8 c]) = fRetA (wordR neg (nearR hv rest (ex - (53 : Nat)))) (accR neg hv rest (ex - (53 : Nat)))) := by
    intro u c h1 h2
    rcases Nat.lt_or_ge R INFR with h | h
    · obtain ⟨rfl, rfl⟩ := h1 h
      refine retA ?_ ?_
      · unfold nearR; rw [HR.out, Nat.min_eq_left (Nat.le_of_lt h)]
      · unfold accR accM; rw [HR.out, if_neg (Nat.not_le.2 h)]
    · obtain ⟨rfl, rfl⟩ := h2 h
      refine retA ?_ ?_
      · unfold nearR; rw [HR.out, Nat.min_eq_right h]
      · unfold accR; rw [HR.out, if_pos h]
  clear x0 x1 x2 x3 x4 x5 x6 u1 u2 hcase hR HSET
  obtain ⟨x0, x1, x2, x3, x4, x5, x6⟩ := sev hx2
  obtain ⟨y0, y1, y2, y3, y4, y5, y6⟩ := sev hb2
  have v1 : IntKind.i32.wrap (X - 1) = X - 1 := i32wi _ (by clear henc; omega)
  clear hb2 hg2 hZW hZ hZl hN hW2 hx2
  by_cases hov : 1024 < X
  · have c1 : (1023 : Int) < X - 1 := by clear henc; omega
    have hRI := henc.1.1 hov
    have HRI := Lib.hid hRI
    clear henc hRI hXb
    cases neg
    · go_wp2_with fail
      refine (inf_up _).mono ?_
      rintro e w' ⟨rfl, rfl⟩
      go_wp2
      go_ret2
      exact ⟨HRET.out _ _ (fun h => by have := HRI.out; omega) (fun _ => ⟨by decide, rfl⟩), HBG.out.2.2.2.2.1⟩
    · go_wp2_with fail
      refine (inf_down _).mono ?_
      rintro e w' ⟨rfl, rfl⟩
      go_wp2
      go_ret2
      exact ⟨HRET.out _ _ (fun h => by have := HRI.out; omega) (fun _ => ⟨by decide, rfl⟩), HBG.out.2.2.2.2.1⟩
  · obtain ⟨hR1, hR2⟩ := henc.2.2 (by clear henc; omega) (by clear henc; omega)
    have c1 : ¬ (1023 : Int) < X - 1 := by clear henc; omega
    have c2 : ¬ X - 1 < -1022 := by clear henc; omega
    clear henc
    obtain ⟨k, hk⟩ : ∃ k, (X + 1022).toNat = k := ⟨_, rfl⟩
    rw [hk] at hR1
    have v2 : X - 1 + 1023 = (k : Int) := by omega
    have v3 : IntKind.i32.wrap (k : Int) = k := i32wi _ (by omega)
    have v4 : IntKind.u64.wrap (k : Int) = k := u64w k (by omega)
    obtain ⟨kb, hkb⟩ : ∃ z, k * 4503599627370496 = z := ⟨_, rfl⟩
    have v5 : IntKind.u64.wrap ((k : Int) * 4503599627370496) = (kb : Int) := by rw [IntKind.wrap_u64]; omega
    obtain ⟨wq, hwq⟩ : ∃ z, W / 2048 = z := ⟨_, rfl⟩
    have v6 : (W : Int) / 2048 = (wq : Int) := by omega
    obtain ⟨fr, hfr⟩ : ∃ z, wq % 4503599627370496 = z := ⟨_, rfl⟩
    have hWb : W < 18446744073709551616 := by have := HBG.out.2.1; have h2 := getD_mem_lt HBG.out.2.2.1 HBG.out.2.2.2.2.2; rw [HZG.out] at h2; simpa [B64] using h2
    have v7 : bits .and .u64 (wq : Int) 4503599627370495 = (fr : Int) := by
      rw [show (4503599627370495 : Int) = ((2 ^ 52 - 1 : Nat) : Int) from by decide, u64_and_nat _ _ (by omega) (by decide), Nat.and_two_pow_sub_one_eq_mod]
      exact congrArg (fun z : Nat => (z : Int)) hfr
    have hR3 : R = kb + fr := by rw [hR1, hkb, hwq, hfr]
    have v8 : bits .or .u64 0 (kb : Int) = (kb : Int) := by
      rw [show (0 : Int) = ((0 : Nat) : Int) from rfl, u64_or_nat _ _ (by decide) (by omega), Nat.zero_or]
    have v9 : bits .or .u64 (kb : Int) (fr : Int) = (R : Int) := by
      rw [u64_or_nat _ _ (by omega) (by omega), Nat.or_comm, or_add_low (r := 52) (by omega) (by omega), hR3, Nat.add_comm]
    obtain ⟨k2, hk2⟩ : ∃ z, 9223372036854775808 + kb = z := ⟨_, rfl⟩
    have va : bits .or .u64 9223372036854775808 (kb : Int) = (k2 : Int) := by
      rw [show (9223372036854775808 : Int) = ((9223372036854775808 : Nat) : Int) from rfl, u64_or_nat _ _ (by decide) (by omega), Nat.or_comm, or_add_low (r := 63) (by omega) (by decide)]; omega
    obtain ⟨R2, hR4⟩ : ∃ z, R + 9223372036854775808 = z := ⟨_, rfl⟩
    have vb : bits .or .u64 (k2 : Int) (fr : Int) = (R2 : Int) := by
      rw [u64_or_nat _ _ (by omega) (by omega), Nat.or_comm, or_add_low (r := 52) (by omega) (by omega)]; omega
    have HR2 := Lib.hid (And.intro hR2 hR4)
    clear hXb hR1 hR2 hk hkb hwq hfr hWb hR3 hk2 hR4
    cases neg
    · go_wp2_with fail
      refine (HMS.out _ rfl).mono ?_
      rintro e w' ⟨rfl, rfl⟩
      go_wp2
      go_quiet (fail)
      go_wp2
      go_ret2
      exact ⟨HRET.out _ _ (fun h => ⟨rfl, rfl⟩) (fun h => by have := HR2.out.1; omega), below_drewN HBG.out.2.2.2.2.1 _⟩
    · go_wp2_with fail
      refine (HMS.out _ rfl).mono ?_
      rintro e w' ⟨rfl, rfl⟩
      go_wp2
      go_quiet (fail)
      go_wp2
      go_ret2
      exact ⟨HRET.out _ _ (fun h => ⟨HR2.out.2.symm, rfl⟩) (fun h => by have := HR2.out.1; omega), below_drewN HBG.out.2.2.2.2.1 _⟩
end Go.Proofs.YtfgdmiigmcnmpaaGreatFmt

namespace Go.Proofs.YtfgdmiigmcnmpaaGreatFmt
open Go.RowKit
attribute [local go_sem ↓] Go.wp_at_zero Go.wp_at_succ

/-! ### Float64: rounded -/
set_option maxHeartbeats 8000000 in
set_option maxRecDepth 100000 in
theorem f64_lo (bx n m B hv : Nat) (ax ex : Int) (neg rest : Bool) (v : Value) (w : World) (hx : Blk w bx 64 (fC 2300 ax 1 neg v ex)) (hO : OwnN w B m v)
    (hbl : bl m = 64 * n) (h0 : 0 < n) (h35 : n ≤ 35) (hex : -20000 ≤ ex ∧ ex < -1021) (p : Nat) (hp : (p : Int) = ex + 1074) (hp0 : 0 < p) (hh : hv = m / 2 ^ (64 * n - p - 1)) (hr : rest = restB (m % 2 ^ (64 * n - p - 1))) :
    Calls Tryz.prog 83 #[.pointer (some ⟨bx, 0, none⟩)] w fun e w' => e = fRetA (wordR neg (nearR hv rest (ex - (p : Nat)))) (accR neg hv rest (ex - (p : Nat))) ∧ Below w.heap.size w w' := by
  obtain ⟨x0, x1, x2, x3, x4, x5, x6⟩ := sev hx
  have HX := Lib.hid hx
  have u1 : IntKind.i32.wrap (ex - 1) = ex - 1 := i32wi _ (by omega)
  have u2 : ex - 1 < -1022 := by omega
  have u3 : IntKind.i64.wrap (ex - 1) = ex - 1 := IntWalk.i64_in _ (by omega)
  obtain ⟨y, hy⟩ : ∃ y : Int, y = (p : Int) := ⟨_, rfl⟩
  have u4 : 1075 + (ex - 1) = y := by omega
  have u5 : IntKind.i64.wrap y = y := IntWalk.i64_in _ (by omega)
  have u6 : (y == 0) = false := by simp; omega
  have u7 : IntKind.u32.wrap y = y := by rw [hy]; exact u32w p (by omega)
  have u8 : ¬ y < 0 := by omega
  have HY := Lib.hid hy
  have HP := Lib.hid (And.intro hp hp0)
  have HSET := Lib.hid (fun (W : World) (hW : ∃ q, W = w.drewN q) => set_new bx n p hv m B ax ex neg rest v w W hW hx hO hbl h0 h35 (by omega) (by omega) (by omega) hh hr)
  have htop := cut_top (n := n) (p := p) (t := m / 2 ^ (64 * (n - 1))) hbl h0 (by omega) (by omega) rfl hh
  have HH := Lib.hid (And.intro htop.2.1 htop.2.2.1)
  have HEX := Lib.hid hex
  clear hx hO hbl h0 h35 hh hr htop
  clear hy hp hp0
  go_enter Tryz.func83, Tryz.ntmps83
  go_wp2
  have u9 : decide (y < 0) = false := decide_eq_false (by omega)
  go_quiet (fail)
  obtain ⟨w1, hw1⟩ : ∃ W, w.drewN nq = W := ⟨_, rfl⟩
  rw [hw1]
  have HQ1 : Hid (∃ q, w1 = w.drewN q) := ⟨nq, hw1.symm⟩
  have z0 : w1.cell? ⟨bx, 0, none⟩ = some (.int .u32 2300) := by rw [← hw1]; exact x0
  clear hw1
  go_wp2_with fail
  obtain rfl := HY.out
  refine (HSET.out w1 HQ1.out).mono ?_
  rintro e w2 ⟨rfl, hc, hW2, hx2⟩
  obtain ⟨hp, hp0⟩ := HP.out
  obtain ⟨g, N, W, X, hb2, ⟨Z', hg2, hZW, hZ, hZl⟩, hN, hcase⟩ := hc
  have henc := enc_word (ex := ex) (X := X) (p := p) (Q := hv / 2 + (moreH 0 false rest hv).toNat) (W := W) (R := r0R hv rest (ex - (p : Nat))) (by omega) (by omega) (by
    have h1 := HH.out.1
    have : 2 ^ p = 2 ^ (p - 1) * 2 := two_pred (by omega)
    omega) (by rcases hcase with h | h <;> omega) (by unfold r0R; rw [Nat.add_assoc]) hcase
  have hXb : X = ex ∨ X = ex + 1 := by rcases hcase with h | h; exact .inr h.2.1; exact .inl h.2.1
  have HZG := Lib.hid hZW
  have HBG := Lib.hid (And.intro hb2 (And.intro hg2 (And.intro hZ (And.intro hN (And.intro hW2 hZl)))))
  have HMS := Lib.hid (fun (W' : World) (hW' : W' = w2) => nmsb_calls (some ⟨g, 0, none⟩) 1 N 106 0 W (Z'.take 1) W' (by rw [List.length_take]; omega) (by subst hW'; exact u64row hg2 hZ 1) (by decide) (by decide) (by rw [List.getD_eq_getElem?_getD, List.getElem?_take, if_pos (by decide), ← List.getD_eq_getElem?_getD]; exact hZW))
  obtain ⟨R, hR⟩ : ∃ R, r0R hv rest (ex - (p : Nat)) = R := ⟨_, rfl⟩
  rw [hR] at henc
  have HR := Lib.hid hR
  have HRET : Hid (∀ (u : Nat) (c : Int) , (R < INFR → u = wordR neg R ∧ c = accM neg rest hv) → (INFR ≤ R → u = wordR neg INFR ∧ c = if neg then -1 else 1) → Ending.returned (.tuple #[.float .f64 u, .int .i8 c]) = fRetA (wordR neg (nearR hv rest (ex - (p : Nat)))) (accR neg hv rest (ex - (p : Nat)))) := by
    intro u c h1 h2
    rcases Nat.lt_or_ge R INFR with h | h
    · obtain ⟨rfl, rfl⟩ := h1 h
      refine retA ?_ ?_
      · unfold nearR; rw [HR.out, Nat.min_eq_left (Nat.le_of_lt h)]
      · unfold accR accM; rw [HR.out, if_neg (Nat.not_le.2 h)]
    · obtain ⟨rfl, rfl⟩ := h2 h
      refine retA ?_ ?_
      · unfold nearR; rw [HR.out, Nat.min_eq_right h]
      · unfold accR; rw [HR.out, if_pos h]
  clear x0 x1 x2 x3 x4 x5 x6 u1 u2 u3 u4 u5 u6 hcase hR HSET
  obtain ⟨x0, x1, x2, x3, x4, x5, x6⟩ := sev hx2
  obtain ⟨y0, y1, y2, y3, y4, y5, y6⟩ := sev hb2
  have v1 : IntKind.i32.wrap (X - 1) = X - 1 := i32wi _ (by clear henc; omega)
  clear hb2 hg2 hZW hZ hZl hN hW2 hx2
  by_cases hov : X < -1021
  · obtain ⟨p2, hp2, hp3, hp4, hR1, hR2⟩ := henc.2.1 hov
    have c1 : ¬ (1023 : Int) < X - 1 := by clear henc; omega
    have c2 : X - 1 < -1022 := by clear henc; omega
    clear henc
    have v2 : IntKind.i64.wrap (X - 1) = X - 1 := IntWalk.i64_in _ (by omega)
    have v3 : 1075 + (X - 1) = (p2 : Int) := by omega
    have v4 : IntKind.i64.wrap (p2 : Int) = p2 := IntWalk.i64_in _ (by omega)
    obtain ⟨s2, hs2⟩ : ∃ z, 64 - p2 = z := ⟨_, rfl⟩
    have v5 : (64 : Int) - (p2 : Int) = (s2 : Int) := by omega
    have v6 : IntKind.i64.wrap (s2 : Int) = s2 := IntWalk.i64_in _ (by omega)
    have v7 : IntKind.u64.wrap (s2 : Int) = s2 := u64w s2 (by omega)
    have v8 : (s2 : Int) < 64 := by omega
    rw [hs2] at hR1
    have v9 : (W : Int) / 2 ^ s2 = (R : Int) := by rw [shr_nat W s2, hR1]
    have va : bits .or .u64 0 0 = 0 := by decide
    have vb : bits .or .u64 9223372036854775808 0 = 9223372036854775808 := by decide
    have vc : bits .or .u64 0 (R : Int) = (R : Int) := by
      rw [show (0 : Int) = ((0 : Nat) : Int) from rfl, u64_or_nat _ _ (by decide) (by omega), Nat.zero_or]
    obtain ⟨R2, hR4⟩ : ∃ z, R + 9223372036854775808 = z := ⟨_, rfl⟩
    have vd : bits .or .u64 9223372036854775808 (R : Int) = (R2 : Int) := by
      rw [show (9223372036854775808 : Int) = ((9223372036854775808 : Nat) : Int) from rfl, u64_or_nat _ _ (by decide) (by omega), Nat.or_comm, or_add_low (r := 63) (by omega) (by decide)]; omega
    have HR2 := Lib.hid (And.intro hR2 hR4)
    clear hXb hR1 hR2 hp2 hp3 hp4 hs2 hR4 hp hp0
    cases neg
    · go_wp2_with fail
      refine (HMS.out _ rfl).mono ?_
      rintro e w' ⟨rfl, rfl⟩
      go_wp2
      go_quiet (fail)
      go_wp2
      go_ret2
      exact ⟨HRET.out _ _ (fun h => ⟨rfl, rfl⟩) (fun h => by have := HR2.out.1; simp only [INFR] at h; omega), below_drewN HBG.out.2.2.2.2.1 _⟩
    · go_wp2_with fail
      refine (HMS.out _ rfl).mono ?_
      rintro e w' ⟨rfl, rfl⟩
      go_wp2
      go_quiet (fail)
      go_wp2
      go_ret2
      exact ⟨HRET.out _ _ (fun h => ⟨HR2.out.2.symm, rfl⟩) (fun h => by have := HR2.out.1; simp only [INFR] at h; omega), below_drewN HBG.out.2.2.2.2.1 _⟩
  · obtain ⟨hR1, hR2⟩ := henc.2.2 (by clear henc; omega) (by clear henc; omega)
    have c1 : ¬ (1023 : Int) < X - 1 := by clear henc; omega
    have c2 : ¬ X - 1 < -1022 := by clear henc; omega
    clear henc
    obtain ⟨k, hk⟩ : ∃ k, (X + 1022).toNat = k := ⟨_, rfl⟩
    rw [hk] at hR1
    have v2 : X - 1 + 1023 = (k : Int) := by omega
    have v3 : IntKind.i32.wrap (k : Int) = k := i32wi _ (by omega)
    have v4 : IntKind.u64.wrap (k : Int) = k := u64w k (by omega)
    obtain ⟨kb, hkb⟩ : ∃ z, k * 4503599627370496 = z := ⟨_, rfl⟩
    have v5 : IntKind.u64.wrap ((k : Int) * 4503599627370496) = (kb : Int) := by rw [IntKind.wrap_u64]; omega
    obtain ⟨wq, hwq⟩ : ∃ z, W / 2048 = z := ⟨_, rfl⟩
    have v6 : (W : Int) / 2048 = (wq : Int) := by omega
    obtain ⟨fr, hfr⟩ : ∃ z, wq % 4503599627370496 = z := ⟨_, rfl⟩
    have hWb : W < 18446744073709551616 := by have := HBG.out.2.1; have h2 := getD_mem_lt HBG.out.2.2.1 HBG.out.2.2.2.2.2; rw [HZG.out] at h2; simpa [B64] using h2
    have v7 : bits .and .u64 (wq : Int) 4503599627370495 = (fr : Int) := by
      rw [show (4503599627370495 : Int) = ((2 ^ 52 - 1 : Nat) : Int) from by decide, u64_and_nat _ _ (by omega) (by decide), Nat.and_two_pow_sub_one_eq_mod]
      exact congrArg (fun z : Nat => (z : Int)) hfr
    have hR3 : R = kb + fr := by rw [hR1, hkb, hwq, hfr]
    have v8 : bits .or .u64 0 (kb : Int) = (kb : Int) := by
      rw [show (0 : Int) = ((0 : Nat) : Int) from rfl, u64_or_nat _ _ (by decide) (by omega), Nat.zero_or]
    have v9 : bits .or .u64 (kb : Int) (fr : Int) = (R : Int) := by
      rw [u64_or_nat _ _ (by omega) (by omega), Nat.or_comm, or_add_low (r := 52) (by omega) (by omega), hR3, Nat.add_comm]
    obtain ⟨k2, hk2⟩ : ∃ z, 9223372036854775808 + kb = z := ⟨_, rfl⟩
    have va : bits .or .u64 9223372036854775808 (kb : Int) = (k2 : Int) := by
      rw [show (9223372036854775808 : Int) = ((9223372036854775808 : Nat) : Int) from rfl, u64_or_nat _ _ (by decide) (by omega), Nat.or_comm, or_add_low (r := 63) (by omega) (by decide)]; omega
    obtain ⟨R2, hR4⟩ : ∃ z, R + 9223372036854775808 = z := ⟨_, rfl⟩
    have vb : bits .or .u64 (k2 : Int) (fr : Int) = (R2 : Int) := by
      rw [u64_or_nat _ _ (by omega) (by omega), Nat.or_comm, or_add_low (r := 52) (by omega) (by omega)]; omega
    have HR2 := Lib.hid (And.intro hR2 hR4)
    clear hXb hR1 hR2 hp hp0 hk hkb hwq hfr hWb hR3 hk2 hR4
    cases neg
    · go_wp2_with fail
      refine (HMS.out _ rfl).mono ?_
      rintro e w' ⟨rfl, rfl⟩
      go_wp2
      go_quiet (fail)
      go_wp2
      go_ret2
      exact ⟨HRET.out _ _ (fun h => ⟨rfl, rfl⟩) (fun h => by have := HR2.out.1; omega), below_drewN HBG.out.2.2.2.2.1 _⟩
    · go_wp2_with fail
      refine (HMS.out _ rfl).mono ?_
      rintro e w' ⟨rfl, rfl⟩
      go_wp2
      go_quiet (fail)
      go_wp2
      go_ret2
      exact ⟨HRET.out _ _ (fun h => ⟨HR2.out.2.symm, rfl⟩) (fun h => by have := HR2.out.1; omega), below_drewN HBG.out.2.2.2.2.1 _⟩
end Go.Proofs.YtfgdmiigmcnmpaaGreatFmt

namespace Go.Proofs.YtfgdmiigmcnmpaaGreatFmt
open Go.RowKit
attribute [local go_sem ↓] Go.wp_at_zero Go.wp_at_succ

/-! ### ucmp -/
theorem drew1 (w : World) : ∃ q, w.drew = w.drewN q := ⟨1, rfl⟩
theorem drew2 (w : World) : ∃ q, w.drew.drew = w.drewN q := ⟨2, rfl⟩
theorem sg_lt {a b : Nat} (h : a < b) : Int.sign ((a : Int) - b) = -1 := Int.sign_eq_neg_one_of_neg (by omega)
theorem sg_gt {a b : Nat} (h : b < a) : Int.sign ((a : Int) - b) = 1 := Int.sign_eq_one_of_pos (by omega)
theorem sg_eq {a b : Nat} (h : a = b) : Int.sign ((a : Int) - b) = 0 := by subst h; simp
theorem val_top_lt {xs ys : List Nat} {k x y : Nat} (hx : ∀ d ∈ xs, d < B64) (hlx : k < xs.length) (hly : k < ys.length) (hd : xs.drop (k + 1) = ys.drop (k + 1)) (h1 : xs.getD k 0 = x) (h2 : ys.getD k 0 = y) (h : x < y) : val B64 xs < val B64 ys := by
  rw [val_split1 B64 xs k hlx, val_split1 B64 ys k hly, hd, h1, h2]
  have hlt := val_lt (B := B64) (by decide) (xs.take k) (fun d hd => hx d (List.mem_of_mem_take hd))
  rw [List.length_take, Nat.min_eq_left (by omega)] at hlt
  generalize B64 * val B64 (ys.drop (k + 1)) = T
  have h3 : B64 ^ k * (x + T) + B64 ^ k ≤ B64 ^ k * (y + T) := by
    rw [← Nat.mul_succ]; exact Nat.mul_le_mul_left _ (by omega)
  omega
def padZ (N n : Nat) (xs : List Nat) : List Nat := List.replicate (N - n) 0 ++ xs
theorem padZ_len {N n : Nat} {xs : List Nat} (hl : xs.length = n) (h : n ≤ N) : (padZ N n xs).length = N := by unfold padZ; simp; omega
theorem padZ_lo {N n k : Nat} {xs : List Nat} (h : k < N - n) : (padZ N n xs).getD k 0 = 0 := by
  unfold padZ
  rw [List.getD_eq_getElem?_getD, List.getElem?_append_left (by simpa using h), List.getElem?_replicate, if_pos h]; rfl
theorem padZ_hi {N n k : Nat} {xs : List Nat} (h : N - n ≤ k) : (padZ N n xs).getD k 0 = xs.getD (k - (N - n)) 0 := by
  unfold padZ
  rw [List.getD_eq_getElem?_getD, List.getD_eq_getElem?_getD, List.getElem?_append_right (by simpa using h), List.length_replicate]
theorem padZ_bd {N n : Nat} {xs : List Nat} (h : ∀ d ∈ xs, d < B64) : ∀ d ∈ padZ N n xs, d < B64 := by
  intro d hd
  rcases List.mem_append.1 hd with h1 | h1
  · rw [(List.mem_replicate.1 h1).2]; decide
  · exact h d h1
theorem padZ_val {N n : Nat} {xs : List Nat} : val B64 (padZ N n xs) = B64 ^ (N - n) * val B64 xs := val_zeros _ _ _
theorem drop_step {X Y : List Nat} {k : Nat} (hlx : k < X.length) (hly : k < Y.length) (h : X.drop (k + 1) = Y.drop (k + 1)) (he : X.getD k 0 = Y.getD k 0) : X.drop k = Y.drop k := by
  rw [List.drop_eq_getElem_cons hlx, List.drop_eq_getElem_cons hly, h]
  rw [List.getD_eq_getElem?_getD, List.getD_eq_getElem?_getD, List.getElem?_eq_getElem hlx, List.getElem?_eq_getElem hly] at he
  simp at he
  rw [he]
set_option maxHeartbeats 4000000 in
set_option maxRecDepth 100000 in
theorem ucmp_eq (bx bY m1 m2 n1 n2 c1 c2 B1 B2 N : Nat) (A1 A2 : Option Addr) (ax ay ex : Int) (fx fy : Int) (nx ny : Bool) (w : World) (hx : Blk w bx 64 (fC 2300 ax fx nx (.slice A1 n1 c1) ex)) (hy : Blk w bY 64 (fC 2300 ay fy ny (.slice A2 n2 c2) ex))
    (ox : OwnN w B1 m1 (.slice A1 n1 c1)) (oy : OwnN w B2 m2 (.slice A2 n2 c2)) (h1 : n1 ≤ N) (h2 : n2 ≤ N) (h3 : N = n1 ∨ N = n2) :
    Calls Tryz.prog 72 #[.pointer (some ⟨bx, 0, none⟩), .pointer (some ⟨bY, 0, none⟩)] w fun e w' => e = .returned (.int .i64 (Int.sign (((B64 ^ (N - n1) * m1 : Nat) : Int) - ((B64 ^ (N - n2) * m2 : Nat) : Int)))) ∧ ∃ q, w' = w.drewN q := by
  obtain ⟨x0, x1, x2, x3, x4, x5, x6⟩ := sev hx
  obtain ⟨y0, y1, y2, y3, y4, y5, y6⟩ := sev hy
  obtain ⟨A, n, c, xs, hs, hl, hlc, hcb, hA, ht, hm, hne, hlt⟩ := ox.row
  injection hs with hs1 hs2 hs3
  subst hs1 hs2 hs3
  obtain ⟨A', n', c', ys, hs, hl', hlc', hcb', hA', ht', hm', hne', hlt'⟩ := oy.row
  injection hs with hs1 hs2 hs3
  subst hs1 hs2 hs3
  have hb1 := u64bd hA
  have hb2 := u64bd hA'
  have HP : Hid ((padZ N n1 xs).length = N ∧ (padZ N n2 ys).length = N ∧ (∀ d ∈ padZ N n1 xs, d < B64) ∧ (∀ d ∈ padZ N n2 ys, d < B64)) := ⟨padZ_len hl h1, padZ_len hl' h2, padZ_bd hb1, padZ_bd hb2⟩
  rw [← hm, ← hm', ← padZ_val, ← padZ_val]
  have HA := Lib.hid hA
  have HA2 := Lib.hid hA'
  have HL := Lib.hid (And.intro hl (And.intro hl' (And.intro hlc hlc')))
  obtain ⟨VX, hVX⟩ : ∃ V, val B64 (padZ N n1 xs) = V := ⟨_, rfl⟩
  obtain ⟨VY, hVY⟩ : ∃ V, val B64 (padZ N n2 ys) = V := ⟨_, rfl⟩
  rw [hVX, hVY]
  have HV : Hid (val B64 (padZ N n1 xs) = VX ∧ val B64 (padZ N n2 ys) = VY) := ⟨hVX, hVY⟩
  have HN : Hid (n1 ≤ N ∧ n2 ≤ N ∧ (N = n1 ∨ N = n2) ∧ n1 ≤ 1099511627776 ∧ n2 ≤ 1099511627776) := ⟨h1, h2, h3, by omega, by omega⟩
  clear hA hA' ht ht' hm hm' hne hne' hlt hlt' hb1 hb2 hx hy ox oy hl hl' hlc hlc' hcb hcb' hVX hVY
  have hexx : ¬ ex < ex := by omega
  obtain ⟨pk1, hk1⟩ : ∃ p, N - n1 = p := ⟨_, rfl⟩
  obtain ⟨pk2, hk2⟩ : ∃ p, N - n2 = p := ⟨_, rfl⟩
  go_enter Tryz.func72, Tryz.ntmps72
  go_upto_region 2 with fail
  go_region
  all_goals (
    go_upto_region 4 with fail
    go_region)
  all_goals (
    go_wp2
    go_loop [5, 6] (fun i j => ∃ k : Nat, k ≤ N ∧ i = .int .i64 ((k - pk1 : Nat) : Int) ∧ j = .int .i64 ((k - pk2 : Nat) : Int) ∧ Hid ((padZ N n1 xs).drop k = (padZ N n2 ys).drop k)) (fun i j => (intOf i).toNat + (intOf j).toNat)
    case atStart =>
      refine ⟨N, Nat.le_refl _, ?_, ?_, ?_⟩
      · rw [show N - pk1 = n1 from by omega]
      · rw [show N - pk2 = n2 from by omega]
      · rw [Hid, List.drop_of_length_le (by rw [HP.out.1]; exact Nat.le_refl _), List.drop_of_length_le (by rw [HP.out.2.1]; exact Nat.le_refl _)]
    case round =>
      obtain ⟨k, hk, rfl, rfl, hd⟩ := hrel
      rcases k with _ | k
      · rw [Nat.zero_sub, Nat.zero_sub]
        have HE : Hid (VX = VY) := by
          have := hd.out
          rw [List.drop_zero, List.drop_zero] at this
          rw [Hid, ← HV.out.1, ← HV.out.2, this]
        clear hd hk
        go_wp2
        go_ret
        exact ⟨ret_int' (sg_eq HE.out).symm, drew2 _⟩
      · have hkx : k < (padZ N n1 xs).length := by rw [HP.out.1]; omega
        have hky : k < (padZ N n2 ys).length := by rw [HP.out.2.1]; omega
        have HK := Lib.hid (And.intro hkx hky)
        have HX : Hid (∃ x : Nat, x < 18446744073709551616 ∧ (padZ N n1 xs).getD k 0 = x ∧ ((k < pk1 ∧ k + 1 - pk1 = 0 ∧ k - pk1 = 0 ∧ x = 0) ∨ (∃ (i : Nat) (a : Addr), k + 1 - pk1 = i + 1 ∧ k - pk1 = i ∧ i < n1 ∧ A1 = some a ∧ w.cell? (a.add i) = some (.int .u64 (x : Int))))) := by
          by_cases h : k < pk1
          · exact ⟨0, by decide, padZ_lo (by omega), .inl ⟨h, by omega, by omega, rfl⟩⟩
          · obtain ⟨a, x, ha, hc, hb, he⟩ := u64at (i := k - pk1) HA.out (by rw [HL.out.1]; have := HN.out; omega)
            refine ⟨x, hb, ?_, .inr ⟨k - pk1, a, by omega, rfl, by have := HN.out; omega, ha, hc⟩⟩
            rw [padZ_hi (by omega), show k - (N - n1) = k - pk1 from by omega]; exact he.out
        have HY : Hid (∃ y : Nat, y < 18446744073709551616 ∧ (padZ N n2 ys).getD k 0 = y ∧ ((k < pk2 ∧ k + 1 - pk2 = 0 ∧ k - pk2 = 0 ∧ y = 0) ∨ (∃ (i : Nat) (a : Addr), k + 1 - pk2 = i + 1 ∧ k - pk2 = i ∧ i < n2 ∧ A2 = some a ∧ w.cell? (a.add i) = some (.int .u64 (y : Int))))) := by
          by_cases h : k < pk2
          · exact ⟨0, by decide, padZ_lo (by omega), .inl ⟨h, by omega, by omega, rfl⟩⟩
          · obtain ⟨a, x, ha, hc, hb, he⟩ := u64at (i := k - pk2) HA2.out (by rw [HL.out.2.1]; have := HN.out; omega)
            refine ⟨x, hb, ?_, .inr ⟨k - pk2, a, by omega, rfl, by have := HN.out; omega, ha, hc⟩⟩
            rw [padZ_hi (by omega), show k - (N - n2) = k - pk2 from by omega]; exact he.out
        have HM : Hid (k < pk1 → k < pk2 → False) := fun a b => by have := HN.out; omega
        obtain ⟨x, hxb, hxk, hxc⟩ := HX.out
        obtain ⟨y, hyb, hyk, hyc⟩ := HY.out
        have HC : Hid ((x < y → Int.sign ((VX : Int) - VY) = -1) ∧ (y < x → Int.sign ((VX : Int) - VY) = 1) ∧ (x = y → (padZ N n1 xs).drop k = (padZ N n2 ys).drop k)) := by
          refine ⟨fun h => ?_, fun h => ?_, fun h => ?_⟩
          · rw [← HV.out.1, ← HV.out.2]; exact sg_lt (val_top_lt HP.out.2.2.1 HK.out.1 HK.out.2 hd.out hxk hyk h)
          · rw [← HV.out.1, ← HV.out.2]; exact sg_gt (val_top_lt HP.out.2.2.2 HK.out.2 HK.out.1 hd.out.symm hyk hxk h)
          · exact drop_step HK.out.1 HK.out.2 hd.out (by rw [hxk, hyk, h])
        have hkN : k ≤ N := by omega
        clear hd hk hkx hky hxk hyk
        rcases hxc with ⟨p1, p2, p3, rfl⟩ | ⟨i, a, p2, p3, p4, rfl, hcx⟩ <;> rcases hyc with ⟨q1, q2, q3, rfl⟩ | ⟨j, b, q2, q3, q4, rfl, hcy⟩
        · exact (HM.out p1 q1).elim
        · rw [p2, q2]
          have HPQ := Lib.hid (And.intro p3 q3)
          have j1 : (0 : Int) < (j : Int) + 1 := by omega
          have j2 : (0 : Int) ≤ (j : Int) := by omega
          have j3 : (j : Int) < (n2 : Int) := by omega
          have j4 : IntKind.i64.wrap (j : Int) = j := IntWalk.i64_in _ (by have := HN.out; omega)
          have HKN := Lib.hid hkN
          clear p1 p2 p3 q2 q3 q4 HX HY hxb hyb hkN h1 h2 h3
          rcases Nat.eq_zero_or_pos y with h | h
          · have HD := Lib.hid (HC.out.2.2 h.symm)
            subst h
            go_wp2
            go_round
            case rel => exact ⟨k, HKN.out, by rw [HPQ.out.1], by rw [HPQ.out.2], HD.out⟩
            case measure => simp [intOf]; try omega
          · have HD := Lib.hid (HC.out.1 h)
            have h' : (0 : Int) < (y : Int) := by omega
            clear h
            go_wp2
            go_ret
            exact ⟨ret_int' (HD.out).symm, drew2 _⟩
        · rw [p2, q2]
          have HPQ := Lib.hid (And.intro p3 q3)
          have i1 : (0 : Int) < (i : Int) + 1 := by omega
          have i2 : (0 : Int) ≤ (i : Int) := by omega
          have i3 : (i : Int) < (n1 : Int) := by omega
          have i4 : IntKind.i64.wrap (i : Int) = i := IntWalk.i64_in _ (by have := HN.out; omega)
          have HKN := Lib.hid hkN
          clear q1 p2 p3 q2 q3 p4 HX HY hxb hyb hkN h1 h2 h3
          rcases Nat.eq_zero_or_pos x with h | h
          · have HD := Lib.hid (HC.out.2.2 h)
            subst h
            go_wp2
            go_round
            case rel => exact ⟨k, HKN.out, by rw [HPQ.out.1], by rw [HPQ.out.2], HD.out⟩
            case measure => simp [intOf]; try omega
          · have HD := Lib.hid (HC.out.2.1 h)
            have h' : (0 : Int) < (x : Int) := by omega
            have h'' : ¬ (x : Int) < 0 := by omega
            clear h
            go_wp2
            go_ret
            exact ⟨ret_int' (HD.out).symm, drew2 _⟩
        · rw [p2, q2]
          have HPQ := Lib.hid (And.intro p3 q3)
          have i1 : (0 : Int) < (i : Int) + 1 := by omega
          have i2 : (0 : Int) ≤ (i : Int) := by omega
          have i3 : (i : Int) < (n1 : Int) := by omega
          have i4 : IntKind.i64.wrap (i : Int) = i := IntWalk.i64_in _ (by have := HN.out; omega)
          have j1 : (0 : Int) < (j : Int) + 1 := by omega
          have j2 : (0 : Int) ≤ (j : Int) := by omega
          have j3 : (j : Int) < (n2 : Int) := by omega
          have j4 : IntKind.i64.wrap (j : Int) = j := IntWalk.i64_in _ (by have := HN.out; omega)
          have HKN := Lib.hid hkN
          clear p2 p3 q2 q3 p4 q4 HX HY hxb hyb hkN h1 h2 h3
          rcases Nat.lt_trichotomy x y with h | h | h
          · have HD := Lib.hid (HC.out.1 h)
            have h' : (x : Int) < (y : Int) := by omega
            clear h
            go_wp2
            go_ret
            exact ⟨ret_int' (HD.out).symm, drew2 _⟩
          · have HD := Lib.hid (HC.out.2.2 h)
            subst h
            have h' : ¬ (x : Int) < (x : Int) := by omega
            go_wp2
            go_round
            case rel => exact ⟨k, HKN.out, by rw [HPQ.out.1], by rw [HPQ.out.2], HD.out⟩
            case measure => simp [intOf]; try omega
          · have HD := Lib.hid (HC.out.2.1 h)
            have h' : (y : Int) < (x : Int) := by omega
            have h'' : ¬ (x : Int) < (y : Int) := by omega
            clear h
            go_wp2
            go_ret
            exact ⟨ret_int' (HD.out).symm, drew2 _⟩)
set_option maxHeartbeats 2000000 in
set_option maxRecDepth 100000 in
theorem ucmp_ne (bx bY : Nat) (v1 v2 : Value) (ax ay ex ey : Int) (fx fy : Int) (nx ny : Bool) (w : World) (hx : Blk w bx 64 (fC 2300 ax fx nx v1 ex)) (hy : Blk w bY 64 (fC 2300 ay fy ny v2 ey)) (hne : ex ≠ ey) :
    Calls Tryz.prog 72 #[.pointer (some ⟨bx, 0, none⟩), .pointer (some ⟨bY, 0, none⟩)] w fun e w' => e = .returned (.int .i64 (if ex < ey then -1 else 1)) ∧ ∃ q, w' = w.drewN q := by
  obtain ⟨x0, x1, x2, x3, x4, x5, x6⟩ := sev hx
  obtain ⟨y0, y1, y2, y3, y4, y5, y6⟩ := sev hy
  clear hx hy
  rcases Int.lt_or_le ex ey with h | h
  · rw [if_pos h]
    go_enter Tryz.func72, Tryz.ntmps72
    go_upto_region 2 with fail
    go_region
    all_goals (
      go_wp2
      go_ret
      exact ⟨rfl, drew1 _⟩)
  · have h1 : ¬ ex < ey := by omega
    have h2 : ey < ex := by omega
    rw [if_neg h1]
    clear h hne
    go_enter Tryz.func72, Tryz.ntmps72
    go_upto_region 2 with fail
    go_region
    all_goals (
      go_upto_region 4 with fail
      go_region)
    all_goals (
      go_wp2
      go_ret
      exact ⟨rfl, drew2 _⟩)
theorem ucmp_calls (bx bY K m1 m2 n1 n2 B1 B2 : Nat) (v1 v2 : Value) (ax ay ex ey : Int) (fx fy : Int) (nx ny : Bool) (w : World) (hx : Blk w bx 64 (fC 2300 ax fx nx v1 ex)) (hy : Blk w bY 64 (fC 2300 ay fy ny v2 ey))
    (ox : OwnN w B1 m1 v1) (oy : OwnN w B2 m2 v2) (l1 : bl m1 = 64 * n1) (p1 : 0 < n1) (z1 : 0 ≤ ex - ((64 * n1 : Nat) : Int) + K) (l2 : bl m2 = 64 * n2) (p2 : 0 < n2) (z2 : 0 ≤ ey - ((64 * n2 : Nat) : Int) + K) :
    Calls Tryz.prog 72 #[.pointer (some ⟨bx, 0, none⟩), .pointer (some ⟨bY, 0, none⟩)] w fun e w' => e = .returned (.int .i64 (Int.sign (((m1 * 2 ^ (ex - ((64 * n1 : Nat) : Int) + K).toNat : Nat) : Int) - ((m2 * 2 ^ (ey - ((64 * n2 : Nat) : Int) + K).toNat : Nat) : Int)))) ∧ ∃ q, w' = w.drewN q := by
  by_cases h : ex = ey
  · subst h
    obtain ⟨A1, n1', c1, rfl, _⟩ := ox.shape
    obtain ⟨A2, n2', c2, rfl, _⟩ := oy.shape
    have w1 := ox.words (by intro h; subst h; rw [bl_zero] at l1; omega)
    have w2 := oy.words (by intro h; subst h; rw [bl_zero] at l2; omega)
    obtain rfl : n1' = n1 := by omega
    obtain rfl : n2' = n2 := by omega
    obtain ⟨N, hN⟩ : ∃ N, max n1' n2' = N := ⟨_, rfl⟩
    refine (ucmp_eq bx bY m1 m2 n1' n2' c1 c2 B1 B2 N A1 A2 ax ay ex fx fy nx ny w hx hy ox oy (by omega) (by omega) (by omega)).mono ?_
    rintro e w' ⟨rfl, hq⟩
    refine ⟨?_, hq⟩
    have zN : 0 ≤ ex - ((64 * N : Nat) : Int) + K := by omega
    rw [mag_same (n := n1') (N := N) (by omega) zN, mag_same (n := n2') (N := N) (by omega) zN]
    have hp : 0 < 2 ^ (ex - ((64 * N : Nat) : Int) + K).toNat := Nat.pow_pos (by decide)
    generalize 2 ^ (ex - ((64 * N : Nat) : Int) + K).toNat = P at *
    rw [Int.natCast_mul (_ * m1), Int.natCast_mul (_ * m2), ← Int.sub_mul, Int.sign_mul, Int.sign_eq_one_of_pos (a := (P : Int)) (by omega), Int.mul_one]
  · refine (ucmp_ne bx bY v1 v2 ax ay ex ey fx fy nx ny w hx hy h).mono ?_
    rintro e w' ⟨rfl, hq⟩
    refine ⟨?_, hq⟩
    rcases Int.lt_or_le ex ey with h2 | h2
    · rw [if_pos h2, sg_lt (mag_lt l1 p1 z1 l2 p2 z2 h2)]
    · rw [if_neg (by omega), sg_gt (mag_lt l2 p2 z2 l1 p1 z1 (by omega))]
end Go.Proofs.YtfgdmiigmcnmpaaGreatFmt

namespace Go.Proofs.YtfgdmiigmcnmpaaGreatFmt
open Go.RowKit
attribute [local go_sem ↓] Go.wp_at_zero Go.wp_at_succ

/-! ### uadd -/
theorem quiet_sum' {P : Program} {f : FuncId} {args : Array Value} {w : World} {a b : Nat} {v : Value}
    (h : Calls P f args (w.drewN (a + b)) fun e w' => e = .returned v ∧ ∃ q, w' = (w.drewN (a + b)).drewN q) : Calls P f args (w.drewN (a + b)) fun e w'' => e = .returned v ∧ ∃ n, w'' = w.drewN (a + n) :=
  h.mono fun _ _ ⟨he, q, hm⟩ => ⟨he, b + q, by rw [hm, drewN_drewN, Nat.add_assoc]⟩
/-- x's and y's mantissas at the lesser exponent -/
def sumM (m1 m2 : Nat) (a b : Int) : Nat := if a < b then m1 + m2 * 2 ^ (b - a).toNat else if b < a then m1 * 2 ^ (a - b).toNat + m2 else m1 + m2
theorem sumM_ne {m1 m2 : Nat} {a b : Int} (h : m1 ≠ 0) : sumM m1 m2 a b ≠ 0 := by
  unfold sumM
  split
  · omega
  · split
    · have := Nat.mul_pos (Nat.pos_of_ne_zero h) (Nat.pow_pos (n := (a - b).toNat) (a := 2) (by decide)); omega
    · omega
/-- two operands, whole -/
structure XY (bx bY : Nat) (cx cy : List Value) (B1 B2 m1 m2 : Nat) (v1 v2 : Value) (w : World) : Prop where
  x : Blk w bx 64 cx
  y : Blk w bY 64 cy
  ox : OwnN w B1 m1 v1
  oy : OwnN w B2 m2 v2
theorem XY.keep {bx bY : Nat} {cx cy : List Value} {B1 B2 m1 m2 : Nat} {v1 v2 : Value} {w w' : World} (h : XY bx bY cx cy B1 B2 m1 m2 v1 v2 w) (hb : Below w.heap.size w w') : XY bx bY cx cy B1 B2 m1 m2 v1 v2 w' :=
  ⟨h.x.below' hb, h.y.below' hb, h.ox.keep hb, h.oy.keep hb⟩
theorem XY.set {bx bY : Nat} {cx cy : List Value} {B1 B2 m1 m2 : Nat} {v1 v2 : Value} {w : World} (h : XY bx bY cx cy B1 B2 m1 m2 v1 v2 w) {bz : Nat} {cz : List Value} (hz : Blk w bz 64 cz) (hnx : bx ≠ bz) (hny : bY ≠ bz) (i : Nat) (u : Value) : XY bx bY cx cy B1 B2 m1 m2 v1 v2 (w.setCell ⟨bz, i, none⟩ u) :=
  ⟨h.x.set_far hnx i u, h.y.set_far hny i u, h.ox.setF hz i u, h.oy.setF hz i u⟩
/-- the sum's float under way: its mantissa S -/
structure UZ (bz : Nat) (neg : Bool) (w0 : World) (S : Nat) (A : Option Addr) (n c : Nat) (w : World) : Prop where
  z : Blk w bz 64 (fC 2300 0 0 neg (.slice A n c) 0)
  o : OwnN w w0.heap.size S (.slice A n c)
  b : Below bz w0 w
  s : w0.heap.size ≤ w.heap.size
theorem UZ.of {bz : Nat} {neg : Bool} {w0 w2 : World} {S A' n' c'} {A : Option Addr} {n c : Nat} (hz : Blk w2 bz 64 (fC 2300 0 0 neg (.slice A' n' c') 0)) (o : OwnN w2 w0.heap.size S (.slice A n c)) (b : Below bz w0 w2) : UZ bz neg w0 S A n c (w2.setCell ⟨bz, 5, none⟩ (.slice A n c)) :=
  ⟨hz.set 5 _, o.setF hz 5 _, b.setCell (p := ⟨bz, 5, none⟩) (Nat.le_refl _) _, by simp [World.setCell, b.size]⟩
end Go.Proofs.YtfgdmiigmcnmpaaGreatFmt
