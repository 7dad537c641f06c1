/- Walks and plain laws of this seat's functions, part 33: G20 G20b G24. -/
import Derived.Test.YtogjodnmegafdaaGreatFmtJ21
import Derived.Test.YtogjodnmegafdaaGreatFmtJ32
set_option linter.unusedVariables false
set_option linter.unusedSimpArgs false
namespace Go.Proofs.YtogjodnmegafdaaGreatFmt
open Go.RowKit
attribute [local go_sem ↓] Go.wp_at_zero Go.wp_at_succ

/-! ### Float64: rounded -/
theorem two_pred {p : Nat} (h : 0 < p) : 2 ^ p = 2 ^ (p - 1) * 2 := by
  have e := Nat.pow_succ (n := 2) (m := p - 1)
  rwa [show (p - 1).succ = p from by omega] at e
/-- what Set makes of r -/
theorem set_new (bx n p hv m B : Nat) (ax ex : Int) (neg rest : Bool) (v : Value) (w W : World) (hW : ∃ q, W = w.drewN q) (hx : Blk w bx 65 (fC 2300 ax 1 neg v ex)) (hO : OwnN w B m v)
    (hbl : bl m = 64 * n) (h0 : 0 < n) (h35 : n ≤ 35) (hp0 : 0 < p) (hp53 : p ≤ 53) (hex : -20000 ≤ ex ∧ ex ≤ 20000) (hh : hv = m / 2 ^ (64 * n - p - 1)) (hr : rest = restB (m % 2 ^ (64 * n - p - 1))) :
    Calls Tryz.prog 99 #[.pointer (some ⟨W.heap.size, 0, none⟩), .pointer (some ⟨bx, 0, none⟩)] (W.alloc (.cells #[.int .u32 p, .int .u8 0, .int .i8 0, .int .u8 0, .bool false, .slice none 0 0, .int .i32 0] 65)) fun e w' => e = .returned (.pointer (some ⟨W.heap.size, 0, none⟩)) ∧ WCut W.heap.size p hv neg rest ex w' ∧ Below w.heap.size w w' ∧ Blk w' bx 65 (fC 2300 ax 1 neg v ex) := by
  obtain ⟨q, rfl⟩ := hW
  have hb : Blk ((w.drewN q).alloc (.cells #[.int .u32 p, .int .u8 0, .int .i8 0, .int .u8 0, .bool false, .slice none 0 0, .int .i32 0] 65)) w.heap.size 65 (f0P p (.slice none 0 0)) := Blk.new (w.drewN q) _ _
  have hal2 : Below w.heap.size w ((w.drewN q).alloc (.cells #[.int .u32 p, .int .u8 0, .int .i8 0, .int .u8 0, .bool false, .slice none 0 0, .int .i32 0] 65)) := Below.trans (below_drewN (Below.refl _ w) q) (below_new (Below.refl (w.drewN q).heap.size (w.drewN q)) (.cells #[.int .u32 p, .int .u8 0, .int .i8 0, .int .u8 0, .bool false, .slice none 0 0, .int .i32 0] 65))
  have hlt := hx.lt
  refine (set_cut w.heap.size bx n p hv m B ax ex neg rest v _ hb (hx.below hal2 hlt) (hO.keep hal2) (by omega) hbl h0 h35 hp0 hp53 hex hh hr).mono ?_
  rintro e w' ⟨rfl, h1, h2⟩
  have h3 := Below.trans hal2 h2
  exact ⟨rfl, h1, h3, hx.below h3 hlt⟩
set_option maxHeartbeats 8000000 in
set_option maxRecDepth 100000 in
theorem f64_hi (bx n m B hv : Nat) (ax ex : Int) (neg rest : Bool) (v : Value) (w : World) (hx : Blk w bx 65 (fC 2300 ax 1 neg v ex)) (hO : OwnN w B m v)
    (hbl : bl m = 64 * n) (h0 : 0 < n) (h35 : n ≤ 35) (hex : -1021 ≤ ex ∧ ex ≤ 20000) (hh : hv = m / 2 ^ (64 * n - 53 - 1)) (hr : rest = restB (m % 2 ^ (64 * n - 53 - 1))) :
    Calls Tryz.prog 79 #[.pointer (some ⟨bx, 0, none⟩)] w fun e w' => e = fRetA (wordR neg (nearR hv rest (ex - (53 : Nat)))) (accR neg hv rest (ex - (53 : Nat))) ∧ Below w.heap.size w w' := by
  obtain ⟨x0, x1, x2, x3, x4, x5, x6⟩ := sev hx
  have HX := Lib.hid hx
  have u1 : IntKind.i32.wrap (ex - 1) = ex - 1 := i32wi _ (by omega)
  have u2 : ¬ ex - 1 < -1022 := by omega
  have HSET := Lib.hid (fun (W : World) (hW : ∃ q, W = w.drewN q) => set_new bx n 53 hv m B ax ex neg rest v w W hW hx hO hbl h0 h35 (by omega) (by omega) (by omega) hh hr)
  have htop := cut_top (n := n) (p := 53) (t := m / 2 ^ (64 * (n - 1))) hbl h0 (by omega) (by omega) rfl hh
  have HH := Lib.hid (And.intro htop.2.1 htop.2.2.1)
  have HEX := Lib.hid hex
  clear hx hO hbl h0 h35 hh hr htop
  go_enter Tryz.func79, Tryz.ntmps79
  go_wp2_with fail
  refine (HSET.out _ (⟨0, rfl⟩ : ∃ q, w = w.drewN q)).mono ?_
  rintro e w2 ⟨rfl, hc, hW2, hx2⟩
  obtain ⟨g, N, W, X, hb2, ⟨Z', hg2, hZW, hZ, hZl⟩, hN, hcase⟩ := hc
  have henc := enc_word (ex := ex) (X := X) (p := 53) (Q := hv / 2 + (moreH 0 false rest hv).toNat) (W := W) (R := r0R hv rest (ex - (53 : Nat))) (by omega) (by omega) (by
    have h1 := HH.out.1
    have : 2 ^ 53 = 2 ^ (53 - 1) * 2 := two_pred (by omega)
    omega) (by rcases hcase with h | h <;> omega) (by unfold r0R; rw [Nat.add_assoc]) hcase
  have hXb : X = ex ∨ X = ex + 1 := by rcases hcase with h | h; exact .inr h.2.1; exact .inl h.2.1
  have HZG := Lib.hid hZW
  have HBG := Lib.hid (And.intro hb2 (And.intro hg2 (And.intro hZ (And.intro hN (And.intro hW2 hZl)))))
  have HMS := Lib.hid (fun (W' : World) (hW' : W' = w2) => nmsb_calls (some ⟨g, 0, none⟩) 1 N 103 0 W (Z'.take 1) W' (by rw [List.length_take]; omega) (by subst hW'; exact u64row hg2 hZ 1) (by decide) (by decide) (by rw [List.getD_eq_getElem?_getD, List.getElem?_take, if_pos (by decide), ← List.getD_eq_getElem?_getD]; exact hZW))
  obtain ⟨R, hR⟩ : ∃ R, r0R hv rest (ex - (53 : Nat)) = R := ⟨_, rfl⟩
  rw [hR] at henc
  have HR := Lib.hid hR
  have HRET : Hid (∀ (u : Nat) (c : Int) , (R < INFR → u = wordR neg R ∧ c = accM neg rest hv) → (INFR ≤ R → u = wordR neg INFR ∧ c = if neg then -1 else 1) → Ending.returned (.tuple #[.float .f64 u, .int .i8 c]) = fRetA (wordR neg (nearR hv rest (ex - (53 : Nat)))) (accR neg hv rest (ex - (53 : Nat)))) := by
    intro u c h1 h2
    rcases Nat.lt_or_ge R INFR with h | h
    · obtain ⟨rfl, rfl⟩ := h1 h
      refine retA ?_ ?_
      · unfold nearR; rw [HR.out, Nat.min_eq_left (Nat.le_of_lt h)]
      · unfold accR accM; rw [HR.out, if_neg (Nat.not_le.2 h)]
    · obtain ⟨rfl, rfl⟩ := h2 h
      refine retA ?_ ?_
      · unfold nearR; rw [HR.out, Nat.min_eq_right h]
      · unfold accR; rw [HR.out, if_pos h]
  clear x0 x1 x2 x3 x4 x5 x6 u1 u2 hcase hR HSET
  obtain ⟨x0, x1, x2, x3, x4, x5, x6⟩ := sev hx2
  obtain ⟨y0, y1, y2, y3, y4, y5, y6⟩ := sev hb2
  have v1 : IntKind.i32.wrap (X - 1) = X - 1 := i32wi _ (by clear henc; omega)
  clear hb2 hg2 hZW hZ hZl hN hW2 hx2
  by_cases hov : 1024 < X
  · have c1 : (1023 : Int) < X - 1 := by clear henc; omega
    have hRI := henc.1.1 hov
    have HRI := Lib.hid hRI
    clear henc hRI hXb
    cases neg
    · go_wp2_with fail
      refine (inf_up _).mono ?_
      rintro e w' ⟨rfl, rfl⟩
      go_wp2
      go_ret2
      exact ⟨HRET.out _ _ (fun h => by have := HRI.out; omega) (fun _ => ⟨by decide, rfl⟩), HBG.out.2.2.2.2.1⟩
    · go_wp2_with fail
      refine (inf_down _).mono ?_
      rintro e w' ⟨rfl, rfl⟩
      go_wp2
      go_ret2
      exact ⟨HRET.out _ _ (fun h => by have := HRI.out; omega) (fun _ => ⟨by decide, rfl⟩), HBG.out.2.2.2.2.1⟩
  · obtain ⟨hR1, hR2⟩ := henc.2.2 (by clear henc; omega) (by clear henc; omega)
    have c1 : ¬ (1023 : Int) < X - 1 := by clear henc; omega
    have c2 : ¬ X - 1 < -1022 := by clear henc; omega
    clear henc
    obtain ⟨k, hk⟩ : ∃ k, (X + 1022).toNat = k := ⟨_, rfl⟩
    rw [hk] at hR1
    have v2 : X - 1 + 1023 = (k : Int) := by omega
    have v3 : IntKind.i32.wrap (k : Int) = k := i32wi _ (by omega)
    have v4 : IntKind.u64.wrap (k : Int) = k := u64w k (by omega)
    obtain ⟨kb, hkb⟩ : ∃ z, k * 4503599627370496 = z := ⟨_, rfl⟩
    have v5 : IntKind.u64.wrap ((k : Int) * 4503599627370496) = (kb : Int) := by rw [IntKind.wrap_u64]; omega
    obtain ⟨wq, hwq⟩ : ∃ z, W / 2048 = z := ⟨_, rfl⟩
    have v6 : (W : Int) / 2048 = (wq : Int) := by omega
    obtain ⟨fr, hfr⟩ : ∃ z, wq % 4503599627370496 = z := ⟨_, rfl⟩
    have hWb : W < 18446744073709551616 := by have := HBG.out.2.1; have h2 := getD_mem_lt HBG.out.2.2.1 HBG.out.2.2.2.2.2; rw [HZG.out] at h2; simpa [B64] using h2
    have v7 : bits .and .u64 (wq : Int) 4503599627370495 = (fr : Int) := by
      rw [show (4503599627370495 : Int) = ((2 ^ 52 - 1 : Nat) : Int) from by decide, u64_and_nat _ _ (by omega) (by decide), Nat.and_two_pow_sub_one_eq_mod]
      exact congrArg (fun z : Nat => (z : Int)) hfr
    have hR3 : R = kb + fr := by rw [hR1, hkb, hwq, hfr]
    have v8 : bits .or .u64 0 (kb : Int) = (kb : Int) := by
      rw [show (0 : Int) = ((0 : Nat) : Int) from rfl, u64_or_nat _ _ (by decide) (by omega), Nat.zero_or]
    have v9 : bits .or .u64 (kb : Int) (fr : Int) = (R : Int) := by
      rw [u64_or_nat _ _ (by omega) (by omega), Nat.or_comm, or_add_low (r := 52) (by omega) (by omega), hR3, Nat.add_comm]
    obtain ⟨k2, hk2⟩ : ∃ z, 9223372036854775808 + kb = z := ⟨_, rfl⟩
    have va : bits .or .u64 9223372036854775808 (kb : Int) = (k2 : Int) := by
      rw [show (9223372036854775808 : Int) = ((9223372036854775808 : Nat) : Int) from rfl, u64_or_nat _ _ (by decide) (by omega), Nat.or_comm, or_add_low (r := 63) (by omega) (by decide)]; omega
    obtain ⟨R2, hR4⟩ : ∃ z, R + 9223372036854775808 = z := ⟨_, rfl⟩
    have vb : bits .or .u64 (k2 : Int) (fr : Int) = (R2 : Int) := by
      rw [u64_or_nat _ _ (by omega) (by omega), Nat.or_comm, or_add_low (r := 52) (by omega) (by omega)]; omega
    have HR2 := Lib.hid (And.intro hR2 hR4)
    clear hXb hR1 hR2 hk hkb hwq hfr hWb hR3 hk2 hR4
    cases neg
    · go_wp2_with fail
      refine (HMS.out _ rfl).mono ?_
      rintro e w' ⟨rfl, rfl⟩
      go_wp2
      go_quiet (fail)
      go_wp2
      go_ret2
      exact ⟨HRET.out _ _ (fun h => ⟨rfl, rfl⟩) (fun h => by have := HR2.out.1; omega), below_drewN HBG.out.2.2.2.2.1 _⟩
    · go_wp2_with fail
      refine (HMS.out _ rfl).mono ?_
      rintro e w' ⟨rfl, rfl⟩
      go_wp2
      go_quiet (fail)
      go_wp2
      go_ret2
      exact ⟨HRET.out _ _ (fun h => ⟨HR2.out.2.symm, rfl⟩) (fun h => by have := HR2.out.1; omega), below_drewN HBG.out.2.2.2.2.1 _⟩
end Go.Proofs.YtogjodnmegafdaaGreatFmt

namespace Go.Proofs.YtogjodnmegafdaaGreatFmt
open Go.RowKit
attribute [local go_sem ↓] Go.wp_at_zero Go.wp_at_succ

/-! ### Float64: rounded -/
set_option maxHeartbeats 8000000 in
set_option maxRecDepth 100000 in
theorem f64_lo (bx n m B hv : Nat) (ax ex : Int) (neg rest : Bool) (v : Value) (w : World) (hx : Blk w bx 65 (fC 2300 ax 1 neg v ex)) (hO : OwnN w B m v)
    (hbl : bl m = 64 * n) (h0 : 0 < n) (h35 : n ≤ 35) (hex : -20000 ≤ ex ∧ ex < -1021) (p : Nat) (hp : (p : Int) = ex + 1074) (hp0 : 0 < p) (hh : hv = m / 2 ^ (64 * n - p - 1)) (hr : rest = restB (m % 2 ^ (64 * n - p - 1))) :
    Calls Tryz.prog 79 #[.pointer (some ⟨bx, 0, none⟩)] w fun e w' => e = fRetA (wordR neg (nearR hv rest (ex - (p : Nat)))) (accR neg hv rest (ex - (p : Nat))) ∧ Below w.heap.size w w' := by
  obtain ⟨x0, x1, x2, x3, x4, x5, x6⟩ := sev hx
  have HX := Lib.hid hx
  have u1 : IntKind.i32.wrap (ex - 1) = ex - 1 := i32wi _ (by omega)
  have u2 : ex - 1 < -1022 := by omega
  have u3 : IntKind.i64.wrap (ex - 1) = ex - 1 := IntWalk.i64_in _ (by omega)
  obtain ⟨y, hy⟩ : ∃ y : Int, y = (p : Int) := ⟨_, rfl⟩
  have u4 : 1075 + (ex - 1) = y := by omega
  have u5 : IntKind.i64.wrap y = y := IntWalk.i64_in _ (by omega)
  have u6 : (y == 0) = false := by simp; omega
  have u7 : IntKind.u32.wrap y = y := by rw [hy]; exact u32w p (by omega)
  have u8 : ¬ y < 0 := by omega
  have HY := Lib.hid hy
  have HP := Lib.hid (And.intro hp hp0)
  have HSET := Lib.hid (fun (W : World) (hW : ∃ q, W = w.drewN q) => set_new bx n p hv m B ax ex neg rest v w W hW hx hO hbl h0 h35 (by omega) (by omega) (by omega) hh hr)
  have htop := cut_top (n := n) (p := p) (t := m / 2 ^ (64 * (n - 1))) hbl h0 (by omega) (by omega) rfl hh
  have HH := Lib.hid (And.intro htop.2.1 htop.2.2.1)
  have HEX := Lib.hid hex
  clear hx hO hbl h0 h35 hh hr htop
  clear hy hp hp0
  go_enter Tryz.func79, Tryz.ntmps79
  go_wp2
  have u9 : decide (y < 0) = false := decide_eq_false (by omega)
  go_quiet (fail)
  obtain ⟨w1, hw1⟩ : ∃ W, w.drewN nq = W := ⟨_, rfl⟩
  rw [hw1]
  have HQ1 : Hid (∃ q, w1 = w.drewN q) := ⟨nq, hw1.symm⟩
  have z0 : w1.cell? ⟨bx, 0, none⟩ = some (.int .u32 2300) := by rw [← hw1]; exact x0
  clear hw1
  go_wp2_with fail
  obtain rfl := HY.out
  refine (HSET.out w1 HQ1.out).mono ?_
  rintro e w2 ⟨rfl, hc, hW2, hx2⟩
  obtain ⟨hp, hp0⟩ := HP.out
  obtain ⟨g, N, W, X, hb2, ⟨Z', hg2, hZW, hZ, hZl⟩, hN, hcase⟩ := hc
  have henc := enc_word (ex := ex) (X := X) (p := p) (Q := hv / 2 + (moreH 0 false rest hv).toNat) (W := W) (R := r0R hv rest (ex - (p : Nat))) (by omega) (by omega) (by
    have h1 := HH.out.1
    have : 2 ^ p = 2 ^ (p - 1) * 2 := two_pred (by omega)
    omega) (by rcases hcase with h | h <;> omega) (by unfold r0R; rw [Nat.add_assoc]) hcase
  have hXb : X = ex ∨ X = ex + 1 := by rcases hcase with h | h; exact .inr h.2.1; exact .inl h.2.1
  have HZG := Lib.hid hZW
  have HBG := Lib.hid (And.intro hb2 (And.intro hg2 (And.intro hZ (And.intro hN (And.intro hW2 hZl)))))
  have HMS := Lib.hid (fun (W' : World) (hW' : W' = w2) => nmsb_calls (some ⟨g, 0, none⟩) 1 N 103 0 W (Z'.take 1) W' (by rw [List.length_take]; omega) (by subst hW'; exact u64row hg2 hZ 1) (by decide) (by decide) (by rw [List.getD_eq_getElem?_getD, List.getElem?_take, if_pos (by decide), ← List.getD_eq_getElem?_getD]; exact hZW))
  obtain ⟨R, hR⟩ : ∃ R, r0R hv rest (ex - (p : Nat)) = R := ⟨_, rfl⟩
  rw [hR] at henc
  have HR := Lib.hid hR
  have HRET : Hid (∀ (u : Nat) (c : Int) , (R < INFR → u = wordR neg R ∧ c = accM neg rest hv) → (INFR ≤ R → u = wordR neg INFR ∧ c = if neg then -1 else 1) → Ending.returned (.tuple #[.float .f64 u, .int .i8 c]) = fRetA (wordR neg (nearR hv rest (ex - (p : Nat)))) (accR neg hv rest (ex - (p : Nat)))) := by
    intro u c h1 h2
    rcases Nat.lt_or_ge R INFR with h | h
    · obtain ⟨rfl, rfl⟩ := h1 h
      refine retA ?_ ?_
      · unfold nearR; rw [HR.out, Nat.min_eq_left (Nat.le_of_lt h)]
      · unfold accR accM; rw [HR.out, if_neg (Nat.not_le.2 h)]
    · obtain ⟨rfl, rfl⟩ := h2 h
      refine retA ?_ ?_
      · unfold nearR; rw [HR.out, Nat.min_eq_right h]
      · unfold accR; rw [HR.out, if_pos h]
  clear x0 x1 x2 x3 x4 x5 x6 u1 u2 u3 u4 u5 u6 hcase hR HSET
  obtain ⟨x0, x1, x2, x3, x4, x5, x6⟩ := sev hx2
  obtain ⟨y0, y1, y2, y3, y4, y5, y6⟩ := sev hb2
  have v1 : IntKind.i32.wrap (X - 1) = X - 1 := i32wi _ (by clear henc; omega)
  clear hb2 hg2 hZW hZ hZl hN hW2 hx2
  by_cases hov : X < -1021
  · obtain ⟨p2, hp2, hp3, hp4, hR1, hR2⟩ := henc.2.1 hov
    have c1 : ¬ (1023 : Int) < X - 1 := by clear henc; omega
    have c2 : X - 1 < -1022 := by clear henc; omega
    clear henc
    have v2 : IntKind.i64.wrap (X - 1) = X - 1 := IntWalk.i64_in _ (by omega)
    have v3 : 1075 + (X - 1) = (p2 : Int) := by omega
    have v4 : IntKind.i64.wrap (p2 : Int) = p2 := IntWalk.i64_in _ (by omega)
    obtain ⟨s2, hs2⟩ : ∃ z, 64 - p2 = z := ⟨_, rfl⟩
    have v5 : (64 : Int) - (p2 : Int) = (s2 : Int) := by omega
    have v6 : IntKind.i64.wrap (s2 : Int) = s2 := IntWalk.i64_in _ (by omega)
    have v7 : IntKind.u64.wrap (s2 : Int) = s2 := u64w s2 (by omega)
    have v8 : (s2 : Int) < 64 := by omega
    rw [hs2] at hR1
    have v9 : (W : Int) / 2 ^ s2 = (R : Int) := by rw [shr_nat W s2, hR1]
    have va : bits .or .u64 0 0 = 0 := by decide
    have vb : bits .or .u64 9223372036854775808 0 = 9223372036854775808 := by decide
    have vc : bits .or .u64 0 (R : Int) = (R : Int) := by
      rw [show (0 : Int) = ((0 : Nat) : Int) from rfl, u64_or_nat _ _ (by decide) (by omega), Nat.zero_or]
    obtain ⟨R2, hR4⟩ : ∃ z, R + 9223372036854775808 = z := ⟨_, rfl⟩
    have vd : bits .or .u64 9223372036854775808 (R : Int) = (R2 : Int) := by
      rw [show (9223372036854775808 : Int) = ((9223372036854775808 : Nat) : Int) from rfl, u64_or_nat _ _ (by decide) (by omega), Nat.or_comm, or_add_low (r := 63) (by omega) (by decide)]; omega
    have HR2 := Lib.hid (And.intro hR2 hR4)
    clear hXb hR1 hR2 hp2 hp3 hp4 hs2 hR4 hp hp0
    cases neg
    · go_wp2_with fail
      refine (HMS.out _ rfl).mono ?_
      rintro e w' ⟨rfl, rfl⟩
      go_wp2
      go_quiet (fail)
      go_wp2
      go_ret2
      exact ⟨HRET.out _ _ (fun h => ⟨rfl, rfl⟩) (fun h => by have := HR2.out.1; simp only [INFR] at h; omega), below_drewN HBG.out.2.2.2.2.1 _⟩
    · go_wp2_with fail
      refine (HMS.out _ rfl).mono ?_
      rintro e w' ⟨rfl, rfl⟩
      go_wp2
      go_quiet (fail)
      go_wp2
      go_ret2
      exact ⟨HRET.out _ _ (fun h => ⟨HR2.out.2.symm, rfl⟩) (fun h => by have := HR2.out.1; simp only [INFR] at h; omega), below_drewN HBG.out.2.2.2.2.1 _⟩
  · obtain ⟨hR1, hR2⟩ := henc.2.2 (by clear henc; omega) (by clear henc; omega)
    have c1 : ¬ (1023 : Int) < X - 1 := by clear henc; omega
    have c2 : ¬ X - 1 < -1022 := by clear henc; omega
    clear henc
    obtain ⟨k, hk⟩ : ∃ k, (X + 1022).toNat = k := ⟨_, rfl⟩
    rw [hk] at hR1
    have v2 : X - 1 + 1023 = (k : Int) := by omega
    have v3 : IntKind.i32.wrap (k : Int) = k := i32wi _ (by omega)
    have v4 : IntKind.u64.wrap (k : Int) = k := u64w k (by omega)
    obtain ⟨kb, hkb⟩ : ∃ z, k * 4503599627370496 = z := ⟨_, rfl⟩
    have v5 : IntKind.u64.wrap ((k : Int) * 4503599627370496) = (kb : Int) := by rw [IntKind.wrap_u64]; omega
    obtain ⟨wq, hwq⟩ : ∃ z, W / 2048 = z := ⟨_, rfl⟩
    have v6 : (W : Int) / 2048 = (wq : Int) := by omega
    obtain ⟨fr, hfr⟩ : ∃ z, wq % 4503599627370496 = z := ⟨_, rfl⟩
    have hWb : W < 18446744073709551616 := by have := HBG.out.2.1; have h2 := getD_mem_lt HBG.out.2.2.1 HBG.out.2.2.2.2.2; rw [HZG.out] at h2; simpa [B64] using h2
    have v7 : bits .and .u64 (wq : Int) 4503599627370495 = (fr : Int) := by
      rw [show (4503599627370495 : Int) = ((2 ^ 52 - 1 : Nat) : Int) from by decide, u64_and_nat _ _ (by omega) (by decide), Nat.and_two_pow_sub_one_eq_mod]
      exact congrArg (fun z : Nat => (z : Int)) hfr
    have hR3 : R = kb + fr := by rw [hR1, hkb, hwq, hfr]
    have v8 : bits .or .u64 0 (kb : Int) = (kb : Int) := by
      rw [show (0 : Int) = ((0 : Nat) : Int) from rfl, u64_or_nat _ _ (by decide) (by omega), Nat.zero_or]
    have v9 : bits .or .u64 (kb : Int) (fr : Int) = (R : Int) := by
      rw [u64_or_nat _ _ (by omega) (by omega), Nat.or_comm, or_add_low (r := 52) (by omega) (by omega), hR3, Nat.add_comm]
    obtain ⟨k2, hk2⟩ : ∃ z, 9223372036854775808 + kb = z := ⟨_, rfl⟩
    have va : bits .or .u64 9223372036854775808 (kb : Int) = (k2 : Int) := by
      rw [show (9223372036854775808 : Int) = ((9223372036854775808 : Nat) : Int) from rfl, u64_or_nat _ _ (by decide) (by omega), Nat.or_comm, or_add_low (r := 63) (by omega) (by decide)]; omega
    obtain ⟨R2, hR4⟩ : ∃ z, R + 9223372036854775808 = z := ⟨_, rfl⟩
    have vb : bits .or .u64 (k2 : Int) (fr : Int) = (R2 : Int) := by
      rw [u64_or_nat _ _ (by omega) (by omega), Nat.or_comm, or_add_low (r := 52) (by omega) (by omega)]; omega
    have HR2 := Lib.hid (And.intro hR2 hR4)
    clear hXb hR1 hR2 hp hp0 hk hkb hwq hfr hWb hR3 hk2 hR4
    cases neg
    · go_wp2_with fail
      refine (HMS.out _ rfl).mono ?_
      rintro e w' ⟨rfl, rfl⟩
      go_wp2
      go_quiet (fail)
      go_wp2
      go_ret2
      exact ⟨HRET.out _ _ (fun h => ⟨rfl, rfl⟩) (fun h => by have := HR2.out.1; omega), below_drewN HBG.out.2.2.2.2.1 _⟩
    · go_wp2_with fail
      refine (HMS.out _ rfl).mono ?_
      rintro e w' ⟨rfl, rfl⟩
      go_wp2
      go_quiet (fail)
      go_wp2
      go_ret2
      exact ⟨HRET.out _ _ (fun h => ⟨HR2.out.2.symm, rfl⟩) (fun h => by have := HR2.out.1; omega), below_drewN HBG.out.2.2.2.2.1 _⟩
end Go.Proofs.YtogjodnmegafdaaGreatFmt

namespace Go.Proofs.YtogjodnmegafdaaGreatFmt
open Go.RowKit
attribute [local go_sem ↓] Go.wp_at_zero Go.wp_at_succ

/-! ### Float64, told -/
theorem accR_bd (neg rest : Bool) (h : Nat) (e : Int) : -2 ≤ accR neg h rest e ∧ accR neg h rest e ≤ 2 := by
  unfold accR; split
  · split <;> omega
  · split
    · omega
    · split <;> omega
theorem f64_calls (b K N : Nat) (X : Int) (w : World) (hx : FVal w K N b X) (hN : N ≤ 35) (hK : 1074 < K) :
    ∃ (neg : Bool) (r : Nat) (c : Int), r ≤ INFR ∧ (-2 ≤ c ∧ c ≤ 2) ∧ (∀ d : Int, 0 ≤ d → d ≤ 2 → sideS d neg r c = rndS d K X) ∧
      Calls Tryz.prog 79 #[.pointer (some ⟨b, 0, none⟩)] w fun e w' => e = fRetA (wordR neg r) c ∧ Below w.heap.size w w' := by
  obtain ⟨acc, form, neg, v, ex, hb, hv⟩ := hx
  rcases hv with ⟨rfl, rfl⟩ | ⟨rfl, B, m, n, hO, hbl, h0, hn, hz, rfl, hex⟩
  · refine ⟨neg, 0, 0, by decide, by decide, fun d h1 h2 => ?_, (f64_zero b acc ex neg v w hb).mono ?_⟩
    · rw [rndS_zero d K hK]
      unfold sideS
      simp only [Int.lt_irrefl, and_false, if_false]
      rw [if_neg (by decide), sgnR_zero]
    · rintro e w' ⟨rfl, q, rfl⟩
      exact ⟨rfl, below_drewN (Below.refl _ _) q⟩
  · have hm0 : m ≠ 0 := by intro h; subst h; rw [bl_zero] at hbl; omega
    obtain ⟨k0, hk0⟩ : ∃ k, (ex - ((64 * n : Nat) : Int) + K).toNat = k := ⟨_, rfl⟩
    have hk1 : (k0 : Int) = ex - ((64 * n : Nat) : Int) + K := by omega
    rw [hk0]
    obtain ⟨s, hs⟩ : ∃ s, shD K (m * 2 ^ k0) = s := ⟨_, rfl⟩
    have spec : ∀ {h : Nat} {rest : Bool} {e : Int}, m * 2 ^ k0 / 2 ^ (s - 1) = h → restB (m * 2 ^ k0 % 2 ^ (s - 1)) = rest → (s : Int) - K = e → ∀ d : Int, 0 ≤ d → d ≤ 2 → sideS d neg (nearR h rest e) (accR neg h rest e) = rndS d K (sg neg (m * 2 ^ k0)) := by
      intro h rest e h1 h2 h3 d hd0 hd2
      have := (rnd_spec (d := d) (neg := neg) hm0 hK (k := s) hs.symm h1.symm h2.symm).1
      rw [this, h3]
      exact side_spec ⟨hd0, hd2⟩ neg rest h e
    have nle : ∀ {h : Nat} {rest : Bool} {e : Int}, nearR h rest e ≤ INFR := Nat.min_le_right _ _
    rcases Int.lt_or_le ex (-1021) with hlo | hhi
    · rcases Int.lt_trichotomy ex (-1074) with h | h | h
      · obtain ⟨a1, a2, a3⟩ := cut_low hbl h0 hk1 hK (by omega) hs.symm
        refine ⟨neg, nearR 0 true (-1074), accR neg 0 true (-1074), nle, accR_bd _ _ _ _, spec a1 a2 a3, (f64_under b acc ex neg v w hb (by omega)).mono ?_⟩
        rintro e w' ⟨rfl, q, rfl⟩
        refine ⟨?_, below_drewN (Below.refl _ _) q⟩
        cases neg <;> rfl
      · obtain ⟨a1, a2, a3⟩ := cut_num (p := 0) hbl h0 hk1 hK (by omega) hs.symm
        rw [cut_edge hbl h0] at a1
        subst h
        obtain ⟨rest, hrest⟩ : ∃ r, restB (m % 2 ^ (64 * n - 1)) = r := ⟨_, rfl⟩
        rw [show 64 * n - 0 - 1 = 64 * n - 1 from rfl, hrest] at a2
        have a3' : (s : Int) - K = -1074 := by omega
        refine ⟨neg, nearR 1 rest (-1074), accR neg 1 rest (-1074), nle, accR_bd _ _ _ _, spec a1 a2 a3', (f64_edge b n m B acc neg rest v w hb hO hbl h0 (by omega) hrest.symm).mono ?_⟩
        rintro e w' ⟨rfl, q, rfl⟩
        refine ⟨?_, below_drewN (Below.refl _ _) q⟩
        cases neg <;> cases rest <;> rfl
      · obtain ⟨p, hp⟩ : ∃ p : Nat, (p : Int) = ex + 1074 := ⟨(ex + 1074).toNat, by omega⟩
        obtain ⟨a1, a2, a3⟩ := cut_num (p := p) hbl h0 hk1 hK (by omega) hs.symm
        exact ⟨neg, _, _, nle, accR_bd _ _ _ _, spec a1 a2 a3, f64_lo b n m B _ acc ex neg _ v w hb hO hbl h0 (by omega) (by omega) p hp (by omega) rfl rfl⟩
    · obtain ⟨a1, a2, a3⟩ := cut_num (p := 53) hbl h0 hk1 hK (by omega) hs.symm
      exact ⟨neg, _, _, nle, accR_bd _ _ _ _, spec a1 a2 a3, f64_hi b n m B _ acc ex neg _ v w hb hO hbl h0 (by omega) (by omega) rfl rfl⟩
set_option maxHeartbeats 1000000 in
set_option maxRecDepth 100000 in
theorem ftold_calls (d : Int) (b K N : Nat) (X : Int) (w : World) (hx : FVal w K N b X) (hN : N ≤ 35) (hK : 1074 < K) (hd : 0 ≤ d ∧ d ≤ 2) :
    Calls Tryz.prog 47 #[.int .i64 d, .pointer (some ⟨b, 0, none⟩)] w fun e w' => e = fRet2 (rndS d K X) ∧ Below w.heap.size w w' := by
  obtain ⟨neg, r, c, h1, h2, h3, h4⟩ := f64_calls b K N X w hx hN hK
  rw [← h3 d hd.1 hd.2]
  have HF := Lib.hid h4
  have HS := Lib.hid (fun W => side_calls d neg r c hd h1 h2 W)
  have hwc : IntKind.i64.wrap c = c := IntWalk.i64_in _ (by omega)
  obtain ⟨u, hu⟩ : ∃ u, wordR neg r = u := ⟨_, rfl⟩
  obtain ⟨o, ho⟩ : ∃ o, sideS d neg r c = o := ⟨_, rfl⟩
  rw [hu] at HF HS
  rw [ho] at HS ⊢
  clear h1 h2 h3 h4 hx hu ho hd hN hK
  go_enter Tryz.func47, Tryz.ntmps47
  go_wp2_with fail
  refine HF.out.mono ?_
  rintro e w' ⟨rfl, hW⟩
  have HW := Lib.hid hW
  clear hW
  unfold fRetA
  go_wp2_with fail
  refine (HS.out _).mono ?_
  rintro e w2 ⟨rfl, rfl⟩
  unfold fRet2
  go_wp2
  go_ret2
  exact ⟨rfl, HW.out⟩
/-! ### Add -/
theorem FVal.raise {w : World} {K J N b : Nat} {X : Int} (h : FVal w K N b X) : FVal w (K + J) N b (X * ((2 ^ J : Nat) : Int)) := by
  obtain ⟨acc, form, neg, v, ex, hb, hv⟩ := h
  refine ⟨acc, form, neg, v, ex, hb, ?_⟩
  rcases hv with ⟨rfl, rfl⟩ | ⟨rfl, B, m, n, hO, hbl, h0, hn, hz, rfl, hex⟩
  · exact .inl ⟨rfl, Int.zero_mul _⟩
  · refine .inr ⟨rfl, B, m, n, hO, hbl, h0, hn, by omega, ?_, hex⟩
    rw [sg_pow, Nat.mul_assoc, ← Nat.pow_add]
    congr 3
    omega
set_option maxHeartbeats 4000000 in
set_option maxRecDepth 100000 in
theorem addf_zero (bz bx bY K N : Nat) (X Y : Int) (fx fy ax ay ex ey : Int) (nx ny : Bool) (vx vy : Value) (w : World) (hz : Blk w bz 65 (fC 2300 0 0 false (.slice none 0 0) 0)) (hx : Blk w bx 65 (fC 2300 ax fx nx vx ex)) (hy : Blk w bY 65 (fC 2300 ay fy ny vy ey))
    (hnx : bx ≠ bz) (hny : bY ≠ bz) (hN : N ≤ 35) (h : (fx = 0 ∧ X = 0 ∧ fy = 0 ∧ Y = 0) ∨ (fx = 0 ∧ X = 0 ∧ fy = 1 ∧ FMan w K N ny vy ey Y) ∨ (fy = 0 ∧ Y = 0 ∧ fx = 1 ∧ FMan w K N nx vx ex X)) :
    Calls Tryz.prog 71 #[.pointer (some ⟨bz, 0, none⟩), .pointer (some ⟨bx, 0, none⟩), .pointer (some ⟨bY, 0, none⟩)] w fun e w' => e = .returned (.pointer (some ⟨bz, 0, none⟩)) ∧ FVal w' K N bz (X + Y) ∧ Below bz w w' := by
  obtain ⟨x0, x1, x2, x3, x4, x5, x6⟩ := sev hx
  obtain ⟨y0, y1, y2, y3, y4, y5, y6⟩ := sev hy
  obtain ⟨c0, c1, c2, c3, c4, c5, c6⟩ := sev hz
  obtain ⟨f0, f1, f2, f3, f4, f5, f6⟩ := frz hz
  have HZ := Lib.hid hz
  rcases h with ⟨rfl, rfl, rfl, rfl⟩ | ⟨rfl, rfl, rfl, hm⟩ | ⟨rfl, rfl, rfl, hm⟩
  · clear hx hy hz
    cases nx
    all_goals (
      go_enter Tryz.func71, Tryz.ntmps71
      go_wp2
      go_quiet (fail)
      go_wp2
      go_ret
      refine ⟨rfl, ⟨0, 0, _, .slice none 0 0, 0, ((HZ.out.set 2 (.int .i8 0)).set 3 (.int .u8 0)).set 4 _, .inl ⟨rfl, rfl⟩⟩, ?_⟩
      exact (((below_drewN (Below.refl bz w) _).setCell (p := ⟨bz, 2, none⟩) (Nat.le_refl _) _).setCell (p := ⟨bz, 3, none⟩) (Nat.le_refl _) _).setCell (p := ⟨bz, 4, none⟩) (Nat.le_refl _) _)
  · rw [Int.zero_add]
    obtain ⟨B, m, n, hO, hbl, h0, hn, hzz, hX, hex⟩ := hm
    have HS := Lib.hid (fun (W : World) (hW : ∃ q, W = w.drewN q) => set_same bz bY n m B ay ey ny vy W (by obtain ⟨q, rfl⟩ := hW; exact hz) (by obtain ⟨q, rfl⟩ := hW; exact hy) (by obtain ⟨q, rfl⟩ := hW; exact hO) (Ne.symm hny) hbl h0 (by omega) hex)
    have HM : Hid (bl m = 64 * n ∧ 0 < n ∧ n ≤ N ∧ 0 ≤ ey - ((64 * n : Nat) : Int) + K ∧ Y = sg ny (m * 2 ^ (ey - ((64 * n : Nat) : Int) + K).toNat) ∧ (-20000 ≤ ey ∧ ey ≤ 20000)) := ⟨hbl, h0, hn, hzz, hX, hex⟩
    clear hx hy hz hO hbl h0 hn hzz hX hex
    go_enter Tryz.func71, Tryz.ntmps71
    go_wp2
    go_quiet (fail)
    go_wp2_with fail
    refine (HS.out _ ⟨_, rfl⟩).mono ?_
    rintro e w2 ⟨rfl, ⟨v', B', k1, k2⟩, hW⟩
    have HF : Hid (FVal w2 K N bz Y ∧ Below bz w w2) := ⟨⟨0, 1, ny, v', ey, k1, .inr ⟨rfl, B', m, n, k2, HM.out⟩⟩, Below.trans (below_drewN (Below.refl bz w) _) hW⟩
    clear k1 k2 hW
    go_wp2
    go_ret
    exact ⟨rfl, HF.out.1, HF.out.2⟩
  · rw [Int.add_zero]
    obtain ⟨B, m, n, hO, hbl, h0, hn, hzz, hX, hex⟩ := hm
    have HS := Lib.hid (fun (W : World) (hW : ∃ q, W = w.drewN q) => set_same bz bx n m B ax ex nx vx W (by obtain ⟨q, rfl⟩ := hW; exact hz) (by obtain ⟨q, rfl⟩ := hW; exact hx) (by obtain ⟨q, rfl⟩ := hW; exact hO) (Ne.symm hnx) hbl h0 (by omega) hex)
    have HM : Hid (bl m = 64 * n ∧ 0 < n ∧ n ≤ N ∧ 0 ≤ ex - ((64 * n : Nat) : Int) + K ∧ X = sg nx (m * 2 ^ (ex - ((64 * n : Nat) : Int) + K).toNat) ∧ (-20000 ≤ ex ∧ ex ≤ 20000)) := ⟨hbl, h0, hn, hzz, hX, hex⟩
    clear hx hy hz hO hbl h0 hn hzz hX hex
    go_enter Tryz.func71, Tryz.ntmps71
    go_wp2
    go_quiet (fail)
    go_wp2_with fail
    refine (HS.out _ ⟨_, rfl⟩).mono ?_
    rintro e w2 ⟨rfl, ⟨v', B', k1, k2⟩, hW⟩
    have HF : Hid (FVal w2 K N bz X ∧ Below bz w w2) := ⟨⟨0, 1, nx, v', ex, k1, .inr ⟨rfl, B', m, n, k2, HM.out⟩⟩, Below.trans (below_drewN (Below.refl bz w) _) hW⟩
    clear k1 k2 hW
    go_wp2
    go_ret
    exact ⟨rfl, HF.out.1, HF.out.2⟩
end Go.Proofs.YtogjodnmegafdaaGreatFmt
