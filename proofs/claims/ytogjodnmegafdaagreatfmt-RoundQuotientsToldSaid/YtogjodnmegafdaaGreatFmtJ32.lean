/- Walks and plain laws of this seat's functions, part 32: G18 G22 G23 G19. -/
import Derived.Test.YtogjodnmegafdaaGreatFmtJ28
import Derived.Test.YtogjodnmegafdaaGreatFmtJ31
set_option linter.unusedVariables false
set_option linter.unusedSimpArgs false
namespace Go.Proofs.YtogjodnmegafdaaGreatFmt
open Go.RowKit
attribute [local go_sem ↓] Go.wp_at_zero Go.wp_at_succ

/-! ### Set -/
theorem neq_flt_other (w : World) {a b : Addr} {ca cb : Array Value} {ta tb : TypeId} (hne : a ≠ b) (ha : w.heap[a.block]? = some (.cells ca ta (0, 0))) (hb : w.heap[b.block]? = some (.cells cb tb (0, 0))) :
    (binOp .neq 56 (.pointer (some a)) (.pointer (some b))).run Tryz.prog w = .ok (.bool true) w := by
  obtain ⟨i, hi, hs⟩ := flt_info
  have hp : Tryz.prog.underlying 56 = some (.pointer 65) := by kernel_rfl
  have h : ∀ d : Nat, (Op.equalIn (d + 1) 56 (.pointer (some a)) (.pointer (some b))).run Tryz.prog w = .ok false w := fun d => by
    simp [Op.equalIn, run_underlying hp, sizeOf, typeInfo, hi, hs, run_sameAddr_other w hne ha hb]
  simp only [binOp]
  simp [Op.equal, Op.maxDepth, h 9999]
abbrev f0P (p : Nat) (v : Value) : List Value := [.int .u32 p, .int .u8 0, .int .i8 0, .int .u8 0, .bool false, v, .int .i32 0]
/-- the word and the exponent of a Float cut to p bits -/
def WCut (b p hv : Nat) (neg rest : Bool) (ex : Int) (w' : World) : Prop :=
  ∃ (g N W : Nat) (X : Int), Blk w' b 65 (fP p (accM neg rest hv) neg (.slice (some ⟨g, 0, none⟩) 1 N) X) ∧ (∃ Z', Blk w' g 103 (i64s Z') ∧ Z'.getD 0 0 = W ∧ (∀ d ∈ Z', d < B64) ∧ 0 < Z'.length) ∧ N ≤ 1099511627776 ∧
    ((hv / 2 + (moreH 0 false rest hv).toNat = 2 ^ p ∧ X = ex + 1 ∧ W = 9223372036854775808) ∨ (hv / 2 + (moreH 0 false rest hv).toNat < 2 ^ p ∧ X = ex ∧ W = (hv / 2 + (moreH 0 false rest hv).toNat) * 2 ^ (64 - p)))
set_option exponentiation.threshold 3000 in
set_option maxHeartbeats 4000000 in
set_option maxRecDepth 100000 in
theorem set_cut (b bx n p hv m B : Nat) (ax ex : Int) (neg rest : Bool) (v : Value) (w : World) (hb : Blk w b 65 (f0P p (.slice none 0 0))) (hx : Blk w bx 65 (fC 2300 ax 1 neg v ex)) (hO : OwnN w B m v) (hne : b ≠ bx)
    (hbl : bl m = 64 * n) (h0 : 0 < n) (h35 : n ≤ 35) (hp0 : 0 < p) (hp53 : p ≤ 53) (hex : -20000 ≤ ex ∧ ex ≤ 20000) (hh : hv = m / 2 ^ (64 * n - p - 1)) (hr : rest = restB (m % 2 ^ (64 * n - p - 1))) :
    Calls Tryz.prog 99 #[.pointer (some ⟨b, 0, none⟩), .pointer (some ⟨bx, 0, none⟩)] w fun e w' => e = .returned (.pointer (some ⟨b, 0, none⟩)) ∧ WCut b p hv neg rest ex w' ∧ Below b w w' := by
  have hm0 : m ≠ 0 := by intro h; subst h; rw [bl_zero] at hbl; omega
  obtain ⟨A, n', c, rfl, _⟩ := hO.shape
  have hw := hO.words hm0
  obtain rfl : n' = n := by omega
  obtain ⟨x0, x1, x2, x3, x4, x5, x6⟩ := sev hx
  obtain ⟨z0, z1, z2, z3, z4, z5, z6⟩ := sev hb
  obtain ⟨f0, f1, f2, f3, f4, f5, f6⟩ := frz hb
  have hbx : ¬ bx = b := fun h => hne h.symm
  have hneq1 := neq_flt_other (w.setCell ⟨b, 2, none⟩ (.int .i8 0)) (a := ⟨b, 0, none⟩) (b := ⟨bx, 0, none⟩) (by intro h; injection h with h; exact hne h) (hb.set 2 (.int .i8 0)) (hx.set_far hbx 2 (.int .i8 0))
  have HB := Lib.hid (And.intro hb (And.intro hx (And.intro hO hm0)))
  have hL : m < B64 ^ 36 := by
    rw [pow64]; exact Nat.lt_of_lt_of_le (bl_lt m) (Nat.pow_le_pow_right (by decide) (by omega))
  have HL := Lib.hid hL
  have HN := Lib.hid (And.intro hbl (And.intro h0 (And.intro h35 (And.intro hp0 (And.intro hp53 (And.intro hex (And.intro hh hr)))))))
  have hpz : ((p : Int) == 0) = false := by simp; omega
  have hp2 : (p : Int) < 2300 := by omega
  clear hb hx hO hbl h0 h35 hp0 hp53 hex hh hr hw hm0 hL
  go_enter Tryz.func99, Tryz.ntmps99
  go_wp2
  obtain ⟨k1, k2, k3, k4⟩ := HB.out
  have hb1 : Blk ((((w.setCell ⟨b, 2, none⟩ (.int .i8 0)).setCell ⟨b, 3, none⟩ (.int .u8 1)).setCell ⟨b, 4, none⟩ (.bool neg)).setCell ⟨b, 6, none⟩ (.int .i32 ex)) b 65 (fP p 0 neg (.slice none 0 0) ex) := (((k1.set 2 _).set 3 _).set 4 _).set 6 _
  have hx1 : Blk ((((w.setCell ⟨b, 2, none⟩ (.int .i8 0)).setCell ⟨b, 3, none⟩ (.int .u8 1)).setCell ⟨b, 4, none⟩ (.bool neg)).setCell ⟨b, 6, none⟩ (.int .i32 ex)) bx 65 (fC 2300 ax 1 neg (.slice A n' c) ex) := (((k2.set_far hbx 2 _).set_far hbx 3 _).set_far hbx 4 _).set_far hbx 6 _
  have hO1 : OwnN ((((w.setCell ⟨b, 2, none⟩ (.int .i8 0)).setCell ⟨b, 3, none⟩ (.int .u8 1)).setCell ⟨b, 4, none⟩ (.bool neg)).setCell ⟨b, 6, none⟩ (.int .i32 ex)) B m (.slice A n' c) := (((k3.setF k1 2 _).setF (k1.set 2 _) 3 _).setF ((k1.set 2 _).set 3 _) 4 _).setF (((k1.set 2 _).set 3 _).set 4 _) 6 _
  have hW1 : Below b w ((((w.setCell ⟨b, 2, none⟩ (.int .i8 0)).setCell ⟨b, 3, none⟩ (.int .u8 1)).setCell ⟨b, 4, none⟩ (.bool neg)).setCell ⟨b, 6, none⟩ (.int .i32 ex)) := ((((Below.refl b w).setCell (p := ⟨b, 2, none⟩) (Nat.le_refl _) _).setCell (p := ⟨b, 3, none⟩) (Nat.le_refl _) _).setCell (p := ⟨b, 4, none⟩) (Nat.le_refl _) _).setCell (p := ⟨b, 6, none⟩) (Nat.le_refl _) _
  obtain ⟨w1, hw1⟩ : ∃ W, (((w.setCell ⟨b, 2, none⟩ (.int .i8 0)).setCell ⟨b, 3, none⟩ (.int .u8 1)).setCell ⟨b, 4, none⟩ (.bool neg)).setCell ⟨b, 6, none⟩ (.int .i32 ex) = W := ⟨_, rfl⟩
  rw [hw1] at hb1 hx1 hO1 hW1 ⊢
  have H1 := Lib.hid (And.intro hb1 (And.intro hx1 (And.intro hO1 hW1)))
  have HS := Lib.hid (fun (W : World) (hW : Below w1.heap.size w1 W) => nset_calls (.slice none 0 0) (.slice A n' c) 0 m W W.heap.size B (.inl ⟨rfl, rfl⟩) (Nat.le_refl _) (H1.out.2.2.1.keep hW) 36 HL.out (by decide))
  clear hw1 hb1 hx1 hO1 hW1 k1 k2 k3 k4 x0 x1 x2 x3 x4 x5 x6 z0 z1 z2 z3 z4 z5 z6 f0 f1 f2 f3 f4 f5 f6 hneq1
  obtain ⟨x0, x1, x2, x3, x4, x5, x6⟩ := sev H1.out.2.1
  obtain ⟨z0, z1, z2, z3, z4, z5, z6⟩ := sev H1.out.1
  obtain ⟨f0, f1, f2, f3, f4, f5, f6⟩ := frz H1.out.1
  go_region_with (go_at_call 102; refine (HS.out _ (by repeat (first | exact Below.refl _ _ | (with_reducible apply below_drewN) | (with_reducible apply Below.drew)))).mono ?_; rintro e w2 ⟨v, rfl, hO2, hW2⟩; have hw2 := hO2; obtain ⟨g, Z, n2, rfl, hgB, hgb, hz, hn2, hl2, ht2, hv2⟩ := hO2.resolve_left (fun h => HB.out.2.2.2 h.2); have hwd := OwnN.words hw2 HB.out.2.2.2; have hb12 : Below w1.heap.size w1 w2 := Below.trans (by repeat (first | exact Below.refl _ _ | (with_reducible apply below_drewN) | (with_reducible apply Below.drew))) hW2; have H2 : Hid (Blk w2 b 65 (fP p 0 neg (.slice none 0 0) ex) ∧ Blk w2 bx 65 (fC 2300 ax 1 neg (.slice A n' c) ex) ∧ Blk w2 g 103 (i64s Z) ∧ (∀ d ∈ Z, d < B64) ∧ n2 ≤ Z.length ∧ Z.length ≤ 1099511627776 ∧ val B64 (Z.take n2) = m ∧ n2 = n' ∧ b < g ∧ Below b w w2) := ⟨H1.out.1.below' hb12, H1.out.2.1.below' hb12, hgb, hz, hn2, hl2, hv2, by have := HN.out.1; omega, Nat.lt_of_lt_of_le H1.out.1.lt hgB, H1.out.2.2.2.trans (hb12.mono (Nat.le_of_lt H1.out.1.lt))⟩; clear hw2 hgB hgb hz hn2 hl2 ht2 hv2 hwd hb12 hW2 hO2; obtain ⟨y0, y1, y2, y3, y4, y5, y6⟩ := sev H2.out.1; obtain ⟨g0, g1, g2, g3, g4, g5, g6⟩ := frz H2.out.1)
  all_goals (
    obtain rfl : n2 = n' := H2.out.2.2.2.2.2.2.2.1
    have hb3 : Blk (w2.setCell ⟨b, 5, none⟩ (.slice (some ⟨g, 0, none⟩) n2 Z.length)) b 65 (fP p 0 neg (.slice (some ⟨g, 0, none⟩) n2 Z.length) ex) := H2.out.1.set 5 _
    have hx3 : Blk (w2.setCell ⟨b, 5, none⟩ (.slice (some ⟨g, 0, none⟩) n2 Z.length)) bx 65 (fC 2300 ax 1 neg (.slice A n2 c) ex) := H2.out.2.1.set_far hbx 5 _
    have hg3 : Blk (w2.setCell ⟨b, 5, none⟩ (.slice (some ⟨g, 0, none⟩) n2 Z.length)) g 103 (i64s Z) := H2.out.2.2.1.set_far (Nat.ne_of_gt H2.out.2.2.2.2.2.2.2.2.1) 5 _
    have hW3 : Below b w (w2.setCell ⟨b, 5, none⟩ (.slice (some ⟨g, 0, none⟩) n2 Z.length)) := H2.out.2.2.2.2.2.2.2.2.2.setCell (p := ⟨b, 5, none⟩) (Nat.le_refl _) _
    obtain ⟨w3, hw3⟩ : ∃ W, w2.setCell ⟨b, 5, none⟩ (.slice (some ⟨g, 0, none⟩) n2 Z.length) = W := ⟨_, rfl⟩
    rw [hw3] at hb3 hx3 hg3 hW3 ⊢
    have H3 := Lib.hid (And.intro hb3 (And.intro hx3 (And.intro hg3 hW3)))
    clear hb3 hx3 hg3 hW3 hw3 x0 x1 x2 x3 x4 x5 x6 z0 z1 z2 z3 z4 z5 z6 f0 f1 f2 f3 f4 f5 f6 y0 y1 y2 y3 y4 y5 y6 g0 g1 g2 g3 g4 g5 g6
    obtain ⟨x0, x1, x2, x3, x4, x5, x6⟩ := sev H3.out.2.1
    obtain ⟨z0, z1, z2, z3, z4, z5, z6⟩ := sev H3.out.1
    have HRC := Lib.hid (fun (W : World) (hW : W.heap = w3.heap) => round_cut b g n2 p hv m Z 0 ex neg rest W (by unfold Blk; rw [hW]; exact H3.out.1) (by unfold Blk; rw [hW]; exact H3.out.2.2.1) H2.out.2.2.2.1 H2.out.2.2.2.2.1 H2.out.2.2.2.2.2.1 H2.out.2.2.2.2.2.2.1 HN.out.1 HN.out.2.1 HN.out.2.2.1 HN.out.2.2.2.1 HN.out.2.2.2.2.1 HN.out.2.2.2.2.2.1 HN.out.2.2.2.2.2.2.1 HN.out.2.2.2.2.2.2.2)
    go_wp2
    go_region
    all_goals (
      go_wp2_with fail
      refine (HRC.out _ (by rfl)).mono ?_
      rintro e w4 ⟨rfl, W, X, Z', r1, r2, r3, r4, r5, r6, r7⟩
      have H4 : Hid (WCut b p hv neg rest ex w4 ∧ Below b w w4) := ⟨⟨g, Z.length, W, X, r1, ⟨Z', r2, r3, r5, by rw [r4]; have := H2.out.2.2.2.2.1; have := HN.out.2.1; omega⟩, H2.out.2.2.2.2.2.1, r6⟩, by
        have e1 : min b g = b := Nat.min_eq_left (Nat.le_of_lt H2.out.2.2.2.2.2.2.2.2.1)
        rw [e1] at r7
        exact Below.trans (by repeat (first | exact H3.out.2.2.2 | (with_reducible apply below_drewN) | (with_reducible apply Below.drew))) r7⟩
      clear r1 r2 r3 r4 r5 r6 r7
      go_wp2
      go_ret
      exact ⟨rfl, H4.out.1, H4.out.2⟩))
end Go.Proofs.YtogjodnmegafdaaGreatFmt

namespace Go.Proofs.YtogjodnmegafdaaGreatFmt
open Go.RowKit
attribute [local go_sem ↓] Go.wp_at_zero Go.wp_at_succ

/-! ### ord, Cmp -/
def ordI (form : Int) (neg : Bool) : Int := if form = 0 then 0 else if neg then -1 else 1
theorem ord_calls (bx : Nat) (ax form ex : Int) (neg : Bool) (v : Value) (w : World) (hx : Blk w bx 65 (fC 2300 ax form neg v ex)) (hf : form = 0 ∨ form = 1) :
    Calls Tryz.prog 69 #[.pointer (some ⟨bx, 0, none⟩)] w fun e w' => e = .returned (.int .i64 (ordI form neg)) ∧ w = w' := by
  obtain ⟨x0, x1, x2, x3, x4, x5, x6⟩ := sev hx
  clear hx
  rcases hf with rfl | rfl <;> cases neg
  all_goals (
    go_enter Tryz.func69, Tryz.ntmps69
    go_wp2
    go_ret
    exact ⟨rfl, rfl⟩)
theorem sign_swap (x y : Int) : Int.sign (x - y) = Int.sign (-y - -x) := by rw [show -y - -x = x - y from by omega]
set_option maxHeartbeats 4000000 in
set_option maxRecDepth 100000 in
theorem cmpf_calls (bx bY K N1 N2 : Nat) (X Y : Int) (w : World) (hx : FVal w K N1 bx X) (hy : FVal w K N2 bY Y) :
    Calls Tryz.prog 36 #[.pointer (some ⟨bx, 0, none⟩), .pointer (some ⟨bY, 0, none⟩)] w fun e w' => e = .returned (.int .i64 (Int.sign (X - Y))) ∧ ∃ q, w' = w.drewN q := by
  obtain ⟨ax, fx, nx, vx, ex, bxb, hvx⟩ := hx
  obtain ⟨ay, fy, ny, vy, ey, byb, hvy⟩ := hy
  have HO1 := Lib.hid (fun W (hW : W = w) => ord_calls bx ax fx ex nx vx W (by subst hW; exact bxb) (by rcases hvx with ⟨rfl, _⟩ | ⟨rfl, _⟩; exact .inl rfl; exact .inr rfl))
  have HO2 := Lib.hid (fun W (hW : W = w) => ord_calls bY ay fy ey ny vy W (by subst hW; exact byb) (by rcases hvy with ⟨rfl, _⟩ | ⟨rfl, _⟩; exact .inl rfl; exact .inr rfl))
  have easy : ∀ s : Int, s = Int.sign (X - Y) → ordI fx nx ≠ ordI fy ny → (s = if ordI fx nx < ordI fy ny then -1 else 1) → Calls Tryz.prog 36 #[.pointer (some ⟨bx, 0, none⟩), .pointer (some ⟨bY, 0, none⟩)] w fun e w' => e = .returned (.int .i64 (Int.sign (X - Y))) ∧ ∃ q, w' = w.drewN q := by
    intro s hs hne hlt
    rw [← hs]
    obtain ⟨o1, ho1⟩ : ∃ o, ordI fx nx = o := ⟨_, rfl⟩
    obtain ⟨o2, ho2⟩ : ∃ o, ordI fy ny = o := ⟨_, rfl⟩
    rw [ho1] at HO1 hlt hne
    rw [ho2] at HO2 hlt hne
    rcases Int.lt_or_le o1 o2 with h | h
    · rw [if_pos h] at hlt
      subst hlt
      clear ho1 ho2 hne hs hvx hvy bxb byb
      go_enter Tryz.func36, Tryz.ntmps36
      go_wp2_with fail
      refine (HO1.out _ rfl).mono ?_
      rintro e w' ⟨rfl, rfl⟩
      go_wp2_with fail
      refine (HO2.out _ rfl).mono ?_
      rintro e w' ⟨rfl, rfl⟩
      go_wp2
      go_ret
      exact ⟨rfl, 0, rfl⟩
    · rw [if_neg (by omega)] at hlt
      subst hlt
      have h1 : ¬ o1 < o2 := by omega
      have h2 : o2 < o1 := by omega
      clear ho1 ho2 hne hs hvx hvy bxb byb h
      go_enter Tryz.func36, Tryz.ntmps36
      go_wp2_with fail
      refine (HO1.out _ rfl).mono ?_
      rintro e w' ⟨rfl, rfl⟩
      go_wp2_with fail
      refine (HO2.out _ rfl).mono ?_
      rintro e w' ⟨rfl, rfl⟩
      go_wp2
      go_ret
      exact ⟨rfl, 0, rfl⟩
  have pos : ∀ {K m : Nat} {e : Int} {n : Nat}, bl m = 64 * n → 0 < n → 0 < m * 2 ^ (e - ((64 * n : Nat) : Int) + K).toNat := fun h h2 => Nat.mul_pos (Nat.pos_of_ne_zero (by intro h3; subst h3; rw [bl_zero] at h; omega)) (Nat.pow_pos (by decide))
  rcases hvx with ⟨rfl, rfl⟩ | ⟨rfl, B1, m1, n1, o1, l1, p1, q1, z1, rfl, e1⟩
  · rcases hvy with ⟨rfl, rfl⟩ | ⟨rfl, B2, m2, n2, o2, l2, p2, q2, z2, rfl, e2⟩
    · clear easy
      rw [show ordI ((0 : Nat) : Int) nx = 0 from rfl] at HO1
      rw [show ordI ((0 : Nat) : Int) ny = 0 from rfl] at HO2
      clear bxb byb pos
      go_enter Tryz.func36, Tryz.ntmps36
      go_wp2_with fail
      refine (HO1.out _ rfl).mono ?_
      rintro e w' ⟨rfl, rfl⟩
      go_wp2_with fail
      refine (HO2.out _ rfl).mono ?_
      rintro e w' ⟨rfl, rfl⟩
      go_wp2
      go_ret
      exact ⟨rfl, 0, rfl⟩
    · have hp := pos (K := K) (e := ey) l2 p2
      cases ny
      · exact easy (-1) (Int.sign_eq_neg_one_of_neg (by simp only [sg, Bool.false_eq_true, if_false]; omega)).symm (by unfold ordI; simp) (by unfold ordI; simp)
      · exact easy 1 (Int.sign_eq_one_of_pos (by simp only [sg, if_true]; omega)).symm (by unfold ordI; simp) (by unfold ordI; simp)
  · have hp1 := pos (K := K) (e := ex) l1 p1
    rcases hvy with ⟨rfl, rfl⟩ | ⟨rfl, B2, m2, n2, o2, l2, p2, q2, z2, rfl, e2⟩
    · cases nx
      · exact easy 1 (Int.sign_eq_one_of_pos (by simp only [sg, Bool.false_eq_true, if_false]; omega)).symm (by unfold ordI; simp) (by unfold ordI; simp)
      · exact easy (-1) (Int.sign_eq_neg_one_of_neg (by simp only [sg, if_true]; omega)).symm (by unfold ordI; simp) (by unfold ordI; simp)
    · have hp2 := pos (K := K) (e := ey) l2 p2
      cases nx <;> cases ny
      · have HC := Lib.hid (ucmp_calls bx bY K m1 m2 n1 n2 B1 B2 vx vy ax ay ex ey 1 1 false false w bxb byb o1 o2 l1 p1 z1 l2 p2 z2)
        rw [show ordI ((1 : Nat) : Int) false = 1 from rfl] at HO1 HO2
        obtain ⟨M1, hM1⟩ : ∃ M, m1 * 2 ^ (ex - ((64 * n1 : Nat) : Int) + K).toNat = M := ⟨_, rfl⟩
        obtain ⟨M2, hM2⟩ : ∃ M, m2 * 2 ^ (ey - ((64 * n2 : Nat) : Int) + K).toNat = M := ⟨_, rfl⟩
        rw [hM1, hM2] at HC
        rw [hM1, hM2]
        have hs : Int.sign (sg false M1 - sg false M2) = Int.sign ((M1 : Int) - (M2 : Int)) := rfl
        rw [hs]
        obtain ⟨s, hs'⟩ : ∃ s, Int.sign ((M1 : Int) - (M2 : Int)) = s := ⟨_, rfl⟩
        rw [hs'] at HC ⊢
        clear easy bxb byb pos hM1 hM2 hs hs' hp1 hp2
        go_enter Tryz.func36, Tryz.ntmps36
        go_wp2_with fail
        refine (HO1.out _ rfl).mono ?_
        rintro e w' ⟨rfl, rfl⟩
        go_wp2_with fail
        refine (HO2.out _ rfl).mono ?_
        rintro e w' ⟨rfl, rfl⟩
        go_wp2_with fail
        refine HC.out.mono ?_
        rintro e w' ⟨rfl, q, rfl⟩
        go_wp2
        go_ret
        exact ⟨rfl, q, rfl⟩
      · exact easy 1 (Int.sign_eq_one_of_pos (by simp only [sg, Bool.false_eq_true, if_false, if_true]; omega)).symm (by unfold ordI; simp) (by unfold ordI; simp)
      · exact easy (-1) (Int.sign_eq_neg_one_of_neg (by simp only [sg, Bool.false_eq_true, if_false, if_true]; omega)).symm (by unfold ordI; simp) (by unfold ordI; simp)
      · have HC := Lib.hid (ucmp_calls bY bx K m2 m1 n2 n1 B2 B1 vy vx ay ax ey ex 1 1 true true w byb bxb o2 o1 l2 p2 z2 l1 p1 z1)
        rw [show ordI ((1 : Nat) : Int) true = -1 from rfl] at HO1 HO2
        obtain ⟨M1, hM1⟩ : ∃ M, m1 * 2 ^ (ex - ((64 * n1 : Nat) : Int) + K).toNat = M := ⟨_, rfl⟩
        obtain ⟨M2, hM2⟩ : ∃ M, m2 * 2 ^ (ey - ((64 * n2 : Nat) : Int) + K).toNat = M := ⟨_, rfl⟩
        rw [hM1, hM2] at HC
        rw [hM1, hM2]
        have hs : Int.sign (sg true M1 - sg true M2) = Int.sign ((M2 : Int) - (M1 : Int)) := by
          rw [show sg true M1 - sg true M2 = (M2 : Int) - (M1 : Int) from by simp only [sg, if_true]; omega]
        rw [hs]
        obtain ⟨s, hs'⟩ : ∃ s, Int.sign ((M2 : Int) - (M1 : Int)) = s := ⟨_, rfl⟩
        rw [hs'] at HC ⊢
        clear easy bxb byb pos hM1 hM2 hs hs' hp1 hp2
        go_enter Tryz.func36, Tryz.ntmps36
        go_wp2_with fail
        refine (HO1.out _ rfl).mono ?_
        rintro e w' ⟨rfl, rfl⟩
        go_wp2_with fail
        refine (HO2.out _ rfl).mono ?_
        rintro e w' ⟨rfl, rfl⟩
        go_wp2_with fail
        refine HC.out.mono ?_
        rintro e w' ⟨rfl, q, rfl⟩
        go_wp2
        go_ret
        exact ⟨rfl, q, rfl⟩
end Go.Proofs.YtogjodnmegafdaaGreatFmt

namespace Go.Proofs.YtogjodnmegafdaaGreatFmt
open Go.RowKit
attribute [local go_sem ↓] Go.wp_at_zero Go.wp_at_succ

/-! ### Set, of one precision -/
set_option exponentiation.threshold 3000 in
set_option maxHeartbeats 4000000 in
set_option maxRecDepth 100000 in
theorem set_same (b bx n m B : Nat) (ax ex : Int) (neg : Bool) (v : Value) (w : World) (hb : Blk w b 65 (fC 2300 0 0 false (.slice none 0 0) 0)) (hx : Blk w bx 65 (fC 2300 ax 1 neg v ex)) (hO : OwnN w B m v) (hne : b ≠ bx)
    (hbl : bl m = 64 * n) (h0 : 0 < n) (h35 : n ≤ 35) (hex : -20000 ≤ ex ∧ ex ≤ 20000) :
    Calls Tryz.prog 99 #[.pointer (some ⟨b, 0, none⟩), .pointer (some ⟨bx, 0, none⟩)] w fun e w' => e = .returned (.pointer (some ⟨b, 0, none⟩)) ∧ (∃ v' B', Blk w' b 65 (fC 2300 0 1 neg v' ex) ∧ OwnN w' B' m v') ∧ Below b w w' := by
  have hm0 : m ≠ 0 := by intro h; subst h; rw [bl_zero] at hbl; omega
  obtain ⟨A, n', c, rfl, _⟩ := hO.shape
  have hw := hO.words hm0
  obtain rfl : n' = n := by omega
  obtain ⟨x0, x1, x2, x3, x4, x5, x6⟩ := sev hx
  obtain ⟨z0, z1, z2, z3, z4, z5, z6⟩ := sev hb
  obtain ⟨f0, f1, f2, f3, f4, f5, f6⟩ := frz hb
  have hbx : ¬ bx = b := fun h => hne h.symm
  have hneq1 := neq_flt_other (w.setCell ⟨b, 2, none⟩ (.int .i8 0)) (a := ⟨b, 0, none⟩) (b := ⟨bx, 0, none⟩) (by intro h; injection h with h; exact hne h) (hb.set 2 (.int .i8 0)) (hx.set_far hbx 2 (.int .i8 0))
  have HB := Lib.hid (And.intro hb (And.intro hx (And.intro hO hm0)))
  have hL : m < B64 ^ 36 := by
    rw [pow64]; exact Nat.lt_of_lt_of_le (bl_lt m) (Nat.pow_le_pow_right (by decide) (by omega))
  have HL := Lib.hid hL
  have HN := Lib.hid (And.intro hbl (And.intro h0 (And.intro h35 hex)))
  clear hb hx hO hbl h0 h35 hex hw hm0 hL
  go_enter Tryz.func99, Tryz.ntmps99
  go_wp2
  obtain ⟨k1, k2, k3, k4⟩ := HB.out
  have hb1 : Blk ((((w.setCell ⟨b, 2, none⟩ (.int .i8 0)).setCell ⟨b, 3, none⟩ (.int .u8 1)).setCell ⟨b, 4, none⟩ (.bool neg)).setCell ⟨b, 6, none⟩ (.int .i32 ex)) b 65 (fC 2300 0 1 neg (.slice none 0 0) ex) := (((k1.set 2 _).set 3 _).set 4 _).set 6 _
  have hx1 : Blk ((((w.setCell ⟨b, 2, none⟩ (.int .i8 0)).setCell ⟨b, 3, none⟩ (.int .u8 1)).setCell ⟨b, 4, none⟩ (.bool neg)).setCell ⟨b, 6, none⟩ (.int .i32 ex)) bx 65 (fC 2300 ax 1 neg (.slice A n' c) ex) := (((k2.set_far hbx 2 _).set_far hbx 3 _).set_far hbx 4 _).set_far hbx 6 _
  have hO1 : OwnN ((((w.setCell ⟨b, 2, none⟩ (.int .i8 0)).setCell ⟨b, 3, none⟩ (.int .u8 1)).setCell ⟨b, 4, none⟩ (.bool neg)).setCell ⟨b, 6, none⟩ (.int .i32 ex)) B m (.slice A n' c) := (((k3.setF k1 2 _).setF (k1.set 2 _) 3 _).setF ((k1.set 2 _).set 3 _) 4 _).setF (((k1.set 2 _).set 3 _).set 4 _) 6 _
  have hW1 : Below b w ((((w.setCell ⟨b, 2, none⟩ (.int .i8 0)).setCell ⟨b, 3, none⟩ (.int .u8 1)).setCell ⟨b, 4, none⟩ (.bool neg)).setCell ⟨b, 6, none⟩ (.int .i32 ex)) := ((((Below.refl b w).setCell (p := ⟨b, 2, none⟩) (Nat.le_refl _) _).setCell (p := ⟨b, 3, none⟩) (Nat.le_refl _) _).setCell (p := ⟨b, 4, none⟩) (Nat.le_refl _) _).setCell (p := ⟨b, 6, none⟩) (Nat.le_refl _) _
  obtain ⟨w1, hw1⟩ : ∃ W, (((w.setCell ⟨b, 2, none⟩ (.int .i8 0)).setCell ⟨b, 3, none⟩ (.int .u8 1)).setCell ⟨b, 4, none⟩ (.bool neg)).setCell ⟨b, 6, none⟩ (.int .i32 ex) = W := ⟨_, rfl⟩
  rw [hw1] at hb1 hx1 hO1 hW1 ⊢
  have H1 := Lib.hid (And.intro hb1 (And.intro hx1 (And.intro hO1 hW1)))
  have HS := Lib.hid (fun (W : World) (hW : Below w1.heap.size w1 W) => nset_calls (.slice none 0 0) (.slice A n' c) 0 m W W.heap.size B (.inl ⟨rfl, rfl⟩) (Nat.le_refl _) (H1.out.2.2.1.keep hW) 36 HL.out (by decide))
  clear hw1 hb1 hx1 hO1 hW1 k1 k2 k3 k4 x0 x1 x2 x3 x4 x5 x6 z0 z1 z2 z3 z4 z5 z6 f0 f1 f2 f3 f4 f5 f6 hneq1
  obtain ⟨x0, x1, x2, x3, x4, x5, x6⟩ := sev H1.out.2.1
  obtain ⟨z0, z1, z2, z3, z4, z5, z6⟩ := sev H1.out.1
  obtain ⟨f0, f1, f2, f3, f4, f5, f6⟩ := frz H1.out.1
  go_region_with (go_at_call 102; refine (HS.out _ (by repeat (first | exact Below.refl _ _ | (with_reducible apply below_drewN) | (with_reducible apply Below.drew)))).mono ?_; rintro e w2 ⟨v, rfl, hO2, hW2⟩; have hw2 := hO2; have HO22 := Lib.hid hO2; obtain ⟨g, Z, n2, rfl, hgB, hgb, hz, hn2, hl2, ht2, hv2⟩ := hO2.resolve_left (fun h => HB.out.2.2.2 h.2); have hwd := OwnN.words hw2 HB.out.2.2.2; have hb12 : Below w1.heap.size w1 w2 := Below.trans (by repeat (first | exact Below.refl _ _ | (with_reducible apply below_drewN) | (with_reducible apply Below.drew))) hW2; have H2 : Hid (Blk w2 b 65 (fC 2300 0 1 neg (.slice none 0 0) ex) ∧ Blk w2 bx 65 (fC 2300 ax 1 neg (.slice A n' c) ex) ∧ Blk w2 g 103 (i64s Z) ∧ (∀ d ∈ Z, d < B64) ∧ n2 ≤ Z.length ∧ Z.length ≤ 1099511627776 ∧ val B64 (Z.take n2) = m ∧ n2 = n' ∧ b < g ∧ Below b w w2) := ⟨H1.out.1.below' hb12, H1.out.2.1.below' hb12, hgb, hz, hn2, hl2, hv2, by have := HN.out.1; omega, Nat.lt_of_lt_of_le H1.out.1.lt hgB, H1.out.2.2.2.trans (hb12.mono (Nat.le_of_lt H1.out.1.lt))⟩; clear hw2 hgB hgb hz hn2 hl2 ht2 hv2 hwd hb12 hW2 hO2; obtain ⟨y0, y1, y2, y3, y4, y5, y6⟩ := sev H2.out.1; obtain ⟨g0, g1, g2, g3, g4, g5, g6⟩ := frz H2.out.1)
  all_goals (
    obtain rfl : n2 = n' := H2.out.2.2.2.2.2.2.2.1
    have hb3 : Blk (w2.setCell ⟨b, 5, none⟩ (.slice (some ⟨g, 0, none⟩) n2 Z.length)) b 65 (fC 2300 0 1 neg (.slice (some ⟨g, 0, none⟩) n2 Z.length) ex) := H2.out.1.set 5 _
    have hx3 : Blk (w2.setCell ⟨b, 5, none⟩ (.slice (some ⟨g, 0, none⟩) n2 Z.length)) bx 65 (fC 2300 ax 1 neg (.slice A n2 c) ex) := H2.out.2.1.set_far hbx 5 _
    have hg3 : Blk (w2.setCell ⟨b, 5, none⟩ (.slice (some ⟨g, 0, none⟩) n2 Z.length)) g 103 (i64s Z) := H2.out.2.2.1.set_far (Nat.ne_of_gt H2.out.2.2.2.2.2.2.2.2.1) 5 _
    have hW3 : Below b w (w2.setCell ⟨b, 5, none⟩ (.slice (some ⟨g, 0, none⟩) n2 Z.length)) := H2.out.2.2.2.2.2.2.2.2.2.setCell (p := ⟨b, 5, none⟩) (Nat.le_refl _) _
    have HO3 : OwnN (w2.setCell ⟨b, 5, none⟩ (.slice (some ⟨g, 0, none⟩) n2 Z.length)) w1.heap.size m (.slice (some ⟨g, 0, none⟩) n2 Z.length) := OwnN.setF HO22.out H2.out.1 5 _
    obtain ⟨w3, hw3⟩ : ∃ W, w2.setCell ⟨b, 5, none⟩ (.slice (some ⟨g, 0, none⟩) n2 Z.length) = W := ⟨_, rfl⟩
    rw [hw3] at hb3 hx3 hg3 hW3 HO3 ⊢
    have H3 := Lib.hid (And.intro hb3 (And.intro hx3 (And.intro hg3 hW3)))
    clear hb3 hx3 hg3 hW3 hw3 x0 x1 x2 x3 x4 x5 x6 z0 z1 z2 z3 z4 z5 z6 f0 f1 f2 f3 f4 f5 f6 y0 y1 y2 y3 y4 y5 y6 g0 g1 g2 g3 g4 g5 g6
    obtain ⟨x0, x1, x2, x3, x4, x5, x6⟩ := sev H3.out.2.1
    obtain ⟨z0, z1, z2, z3, z4, z5, z6⟩ := sev H3.out.1
    have HOO : Hid (OwnN w3 w1.heap.size m (.slice (some ⟨g, 0, none⟩) n2 Z.length)) := HO3
    clear HO3
    go_wp2
    go_region
    all_goals (
      go_wp2
      go_ret
      refine ⟨rfl, ⟨_, w1.heap.size, H3.out.1, HOO.out⟩, ?_⟩
      repeat (first | exact H3.out.2.2.2 | (with_reducible apply below_drewN) | (with_reducible apply Below.drew))))
end Go.Proofs.YtogjodnmegafdaaGreatFmt

namespace Go.Proofs.YtogjodnmegafdaaGreatFmt
open Go.RowKit
attribute [local go_sem ↓] Go.wp_at_zero Go.wp_at_succ

/-! ### Float64: the least numbers -/
def fRetA (u : Nat) (c : Int) : Ending := .returned (.tuple #[.float .f64 u, .int .i8 c])
theorem i32wi (x : Int) (h : -2147483648 ≤ x ∧ x ≤ 2147483647) : IntKind.i32.wrap x = x := by simp [IntKind.wrap, IntKind.bits, IntKind.signed]; omega
theorem retA {u : Nat} {c : Int} {u' : Nat} {c' : Int} (h1 : u = u') (h2 : c = c') : Ending.returned (.tuple #[.float .f64 u, .int .i8 c]) = fRetA u' c' := by subst h1 h2; rfl
set_option maxHeartbeats 4000000 in
set_option maxRecDepth 100000 in
theorem f64_under (bx : Nat) (ax ex : Int) (neg : Bool) (v : Value) (w : World) (hx : Blk w bx 65 (fC 2300 ax 1 neg v ex)) (hex : -20000 ≤ ex ∧ ex < -1074) :
    Calls Tryz.prog 79 #[.pointer (some ⟨bx, 0, none⟩)] w fun e w' => e = fRetA (wordR neg 0) (if neg then 1 else -1) ∧ ∃ q, w' = w.drewN q := by
  obtain ⟨x0, x1, x2, x3, x4, x5, x6⟩ := sev hx
  have u1 : IntKind.i32.wrap (ex - 1) = ex - 1 := i32wi _ (by omega)
  have u2 : ex - 1 < -1022 := by omega
  have u3 : IntKind.i64.wrap (ex - 1) = ex - 1 := IntWalk.i64_in _ (by omega)
  obtain ⟨y, hy⟩ : ∃ y, 1075 + (ex - 1) = y := ⟨_, rfl⟩
  have u4 : IntKind.i64.wrap y = y := IntWalk.i64_in _ (by omega)
  have u5 : y < 0 := by omega
  have hng : ∀ W, (Op.unary .neg (.float .f64 0)).run Tryz.prog W = .ok (.float .f64 9223372036854775808) W := fun _ => rfl
  clear hx hex
  cases neg
  all_goals (
    go_enter Tryz.func79, Tryz.ntmps79
    go_wp2
    go_quiet (fail)
    go_wp2
    go_ret2
    exact ⟨retA (by decide) rfl, _, rfl⟩)
set_option maxHeartbeats 4000000 in
set_option maxRecDepth 100000 in
theorem f64_edge (bx n m B : Nat) (ax : Int) (neg rest : Bool) (v : Value) (w : World) (hx : Blk w bx 65 (fC 2300 ax 1 neg v (-1074))) (hO : OwnN w B m v) (hbl : bl m = 64 * n) (h0 : 0 < n) (h35 : n ≤ 35) (hr : rest = restB (m % 2 ^ (64 * n - 1))) :
    Calls Tryz.prog 79 #[.pointer (some ⟨bx, 0, none⟩)] w fun e w' => e = fRetA (wordR neg rest.toNat) (if rest != neg then 1 else -1) ∧ ∃ q, w' = w.drewN q := by
  obtain ⟨x0, x1, x2, x3, x4, x5, x6⟩ := sev hx
  have hm0 : m ≠ 0 := by intro h; subst h; rw [bl_zero] at hbl; omega
  obtain ⟨A, n', c, xs, rfl, hl, hlc, hcb, hA, ht, hm, hne, hlt⟩ := hO.row
  have hw := hO.words hm0
  obtain rfl : n' = n := by omega
  obtain ⟨j, hj⟩ : ∃ j, 64 * n' - 1 = j := ⟨_, rfl⟩
  rw [hj] at hr
  have HSTK := Lib.hid (fun (W : World) (hW : ∃ q, W = w.drewN q) => nsticky_calls A n' c 103 w.heap.size j xs W hl (by obtain ⟨q, rfl⟩ := hW; exact hA) (by omega) (by omega) hlc hcb)
  rw [hm, ← hr] at HSTK
  have u1 : IntKind.u64.wrap (n' : Int) = n' := u64w n' (by omega)
  have u2 : IntKind.u64.wrap ((n' : Int) * 64) = (n' : Int) * 64 := by rw [IntKind.wrap_u64]; omega
  have u3 : IntKind.u64.wrap ((n' : Int) * 64 - 1) = (j : Int) := by rw [IntKind.wrap_u64]; omega
  have hng : ∀ W, (Op.unary .neg (.float .f64 0)).run Tryz.prog W = .ok (.float .f64 9223372036854775808) W := fun _ => rfl
  have u4 : IntKind.i32.wrap (-1075) = -1075 := by decide
  clear hx hO hbl h0 h35 hr hm0 hw hl hlc hcb hA ht hm hne hlt hj
  cases rest
  · cases neg
    all_goals (
      go_enter Tryz.func79, Tryz.ntmps79
      go_wp2
      go_quiet ((go_at_call 86; exact Calls.quiet_of_same ((HSTK.out _ ⟨_, rfl⟩).mono fun e w' h => ⟨h.1, h.2.symm⟩)))
      go_wp2
      go_ret2
      exact ⟨retA (by decide) rfl, _, rfl⟩)
  · cases neg
    all_goals (
      go_enter Tryz.func79, Tryz.ntmps79
      go_wp2
      go_quiet ((go_at_call 86; exact Calls.quiet_of_same ((HSTK.out _ ⟨_, rfl⟩).mono fun e w' h => ⟨h.1, h.2.symm⟩)))
      go_wp2
      go_ret2
      exact ⟨retA (by decide) rfl, _, rfl⟩)
set_option maxHeartbeats 4000000 in
set_option maxRecDepth 100000 in
theorem f64_zero (bx : Nat) (ax ex : Int) (neg : Bool) (v : Value) (w : World) (hx : Blk w bx 65 (fC 2300 ax 0 neg v ex)) :
    Calls Tryz.prog 79 #[.pointer (some ⟨bx, 0, none⟩)] w fun e w' => e = fRetA (wordR neg 0) 0 ∧ ∃ q, w' = w.drewN q := by
  obtain ⟨x0, x1, x2, x3, x4, x5, x6⟩ := sev hx
  have hng : ∀ W, (Op.unary .neg (.float .f64 0)).run Tryz.prog W = .ok (.float .f64 9223372036854775808) W := fun _ => rfl
  clear hx
  cases neg
  all_goals (
    go_enter Tryz.func79, Tryz.ntmps79
    go_wp2
    go_ret2
    exact ⟨retA (by decide) rfl, 0, rfl⟩)
end Go.Proofs.YtogjodnmegafdaaGreatFmt
