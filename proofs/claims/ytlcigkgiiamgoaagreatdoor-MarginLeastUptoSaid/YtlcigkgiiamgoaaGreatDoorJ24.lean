/- Walks and plain laws of this seat's functions, part 24: D4 D5 D3. -/
import Derived.Test.YtlcigkgiiamgoaaGreatDoorJ17
import Derived.Test.YtlcigkgiiamgoaaGreatDoorJ18
import Derived.Test.YtlcigkgiiamgoaaGreatDoorJ22
import Derived.Test.YtlcigkgiiamgoaaGreatDoorJ23
set_option linter.unusedVariables false
set_option linter.unusedSimpArgs false
namespace Go.Proofs.YtlcigkgiiamgoaaGreatDoor
open Go.RowKit
attribute [local go_sem ↓] Go.wp_at_zero Go.wp_at_succ

/-! ### the law MarginHolds -/
abbrev uqRow (W : World) (b : Nat) (A : Option Addr) (xs : List Nat) : Prop := u64.Row 51 W b A xs
end Go.Proofs.YtlcigkgiiamgoaaGreatDoor

namespace Go.Proofs.YtlcigkgiiamgoaaGreatDoor
open Go.RowKit
attribute [local go_sem ↓] Go.wp_at_zero Go.wp_at_succ

/-! ### the law MarginHolds: the sum at a point -/
/-- what the loops hold: the sum so far; the coordinate so far -/
structure HSt (w5 wr : World) (base bv K : Nat) (V : Int) : Prop where
  W : Below w5.heap.size w5 wr
  V : NumB K base wr bv V
  b : w5.heap.size ≤ bv
structure HIn (w5 wr : World) (base bv bc K Kc : Nat) (V C : Int) : Prop where
  W : Below w5.heap.size w5 wr
  V : NumB K base wr bv V
  C : NumB Kc base wr bc C
  b : w5.heap.size ≤ bv
  bc : bv < bc
theorem HSt.next {w5 wr wy : World} {base bv K : Nat} {V : Int} (h : HSt w5 wr base bv K V) (hb : Below wr.heap.size wr wy) : HSt w5 wy base bv K V := ⟨below_next h.W hb, h.V.next hb, h.b⟩
theorem HIn.next {w5 wr wy : World} {base bv bc K Kc : Nat} {V C : Int} (h : HIn w5 wr base bv bc K Kc V C) (hb : Below wr.heap.size wr wy) : HIn w5 wy base bv bc K Kc V C := ⟨below_next h.W hb, h.V.next hb, h.C.next hb, h.b, h.bc⟩
theorem HIn.updC {w5 wr : World} {base bv bc K Kc : Nat} {V C C' : Int} {neg : Bool} {A : Option Addr} {n c : Nat} {e : Int} (h : HIn w5 wr base bv bc K Kc V C) (hbase : base ≤ w5.heap.size) (hr : (numRd Kc).R wr base C' [.bool neg, .slice A n c, .int .i64 e]) :
    HIn w5 (W3 wr bc (.bool neg) (.slice A n c) (.int .i64 e)) base bv bc K Kc V C' := by
  obtain ⟨_, _, _, _, _, hb, _⟩ := h.C
  have h1 := h.b; have h2 := h.bc
  exact ⟨below3 h.W (by omega) _ _ _, numB_far h.V hb (by omega) (by omega), numB_set hb hr (by omega), h1, h2⟩
theorem HIn.updV {w5 wr : World} {base bv bc K Kc : Nat} {V V' C : Int} {neg : Bool} {A : Option Addr} {n c : Nat} {e : Int} (h : HIn w5 wr base bv bc K Kc V C) (hbase : base ≤ w5.heap.size) (hr : (numRd K).R wr base V' [.bool neg, .slice A n c, .int .i64 e]) :
    HSt w5 (W3 wr bv (.bool neg) (.slice A n c) (.int .i64 e)) base bv K V' := by
  obtain ⟨_, _, _, _, _, hb, _⟩ := h.V
  have h1 := h.b
  exact ⟨below3 h.W (by omega) _ _ _, numB_set hb hr (by omega), h1⟩
theorem hin_new {w5 w4 : World} {base bv K Kc : Nat} {V C : Int} {neg : Bool} {A : Option Addr} {n c : Nat} {e : Int} (h : HSt w5 w4 base bv K V) (hr : (numRd Kc).R w4 base C [.bool neg, .slice A n c, .int .i64 e]) :
    HIn w5 (w4.alloc (.cells #[.bool neg, .slice A n c, .int .i64 e] 47)) base bv w4.heap.size K Kc V C :=
  ⟨below_next h.W (below_new (Below.refl _ _) _), h.V.next (below_new (Below.refl _ _) _), numB_new hr, h.b, h.V.lt⟩
theorem hin_set {w5 w4 : World} {base bv bc K Kc : Nat} {V C : Int} {z0 z1 z2 : Value} {neg : Bool} {A : Option Addr} {n c : Nat} {e : Int} (h : HSt w5 w4 base bv K V) (hz : Blk w4 bc 47 [z0, z1, z2]) (hb : bv < bc) (hbase : base ≤ w5.heap.size) (hr : (numRd Kc).R w4 base C [.bool neg, .slice A n c, .int .i64 e]) :
    HIn w5 (W3 w4 bc (.bool neg) (.slice A n c) (.int .i64 e)) base bv bc K Kc V C := by
  have h1 := h.b
  exact ⟨below3 h.W (by omega) _ _ _, numB_far h.V hz (by omega) (by omega), numB_set hz hr (by omega), h1, hb⟩
theorem keep8 {w W : World} {q1 q2 q3 q4 q5 q6 q7 q8 : Addr} {u1 u2 u3 u4 u5 u6 u7 u8 : Value} (h1 : w.cell? q1 = some u1) (h2 : w.cell? q2 = some u2) (h3 : w.cell? q3 = some u3) (h4 : w.cell? q4 = some u4) (h5 : w.cell? q5 = some u5) (h6 : w.cell? q6 = some u6) (h7 : w.cell? q7 = some u7) (h8 : w.cell? q8 = some u8) (hW : Below w.heap.size w W) :
    W.cell? q1 = some u1 ∧ W.cell? q2 = some u2 ∧ W.cell? q3 = some u3 ∧ W.cell? q4 = some u4 ∧ W.cell? q5 = some u5 ∧ W.cell? q6 = some u6 ∧ W.cell? q7 = some u7 ∧ W.cell? q8 = some u8 :=
  ⟨cell_kept hW h1, cell_kept hW h2, cell_kept hW h3, cell_kept hW h4, cell_kept hW h5, cell_kept hW h6, cell_kept hW h7, cell_kept hW h8⟩
set_option exponentiation.threshold 6000 in
theorem fmax_pos : 0 < fMax := by unfold fMax; exact Nat.mul_pos (by decide) (Nat.pow_pos (by decide))
theorem times_c (d base : Nat) (X Y : Int) (cx cy : List Value) (w : World) (hbase : base ≤ w.heap.size) (hx : (numRd d).R w base X cx) (hy : (numRd 1074).R w base Y cy) (hX : X.natAbs < 2 ^ CapL) (hY : Y.natAbs < 2 ^ CapL) (hd : d ≤ 1000000) :
    Calls Tryz.prog 13 #[.agg cx.toArray, .agg cy.toArray] w fun r w' => ∃ neg A n c e, r = .returned (.agg #[.bool neg, .slice A n c, .int .i64 e]) ∧ (numRd (1074 + d)).R w' base (X * Y) [.bool neg, .slice A n c, .int .i64 e] ∧ Below w.heap.size w w' := by
  have := times_o d 1074 base X Y cx cy w hbase hx hy hX hY (by omega) (by decide)
  rw [Nat.add_comm d 1074] at this
  exact this
theorem zone_row {C : List Nat} (h : C.all fin = true) {i : Nat} (hi : i < C.length) : fin (C.getD i 0) = true := all_getD h hi
end Go.Proofs.YtlcigkgiiamgoaaGreatDoor

namespace Go.Proofs.YtlcigkgiiamgoaaGreatDoor
open Go.RowKit
attribute [local go_sem ↓] Go.wp_at_zero Go.wp_at_succ

/-! ### the law MarginLeast -/
theorem keep11 {w W : World} {q1 q2 q3 q4 q5 q6 q7 q8 q9 q10 q11 : Addr} {u1 u2 u3 u4 u5 u6 u7 u8 u9 u10 u11 : Value} (h1 : w.cell? q1 = some u1) (h2 : w.cell? q2 = some u2) (h3 : w.cell? q3 = some u3) (h4 : w.cell? q4 = some u4) (h5 : w.cell? q5 = some u5) (h6 : w.cell? q6 = some u6) (h7 : w.cell? q7 = some u7) (h8 : w.cell? q8 = some u8) (h9 : w.cell? q9 = some u9) (h10 : w.cell? q10 = some u10) (h11 : w.cell? q11 = some u11) (hW : Below w.heap.size w W) :
    W.cell? q1 = some u1 ∧ W.cell? q2 = some u2 ∧ W.cell? q3 = some u3 ∧ W.cell? q4 = some u4 ∧ W.cell? q5 = some u5 ∧ W.cell? q6 = some u6 ∧ W.cell? q7 = some u7 ∧ W.cell? q8 = some u8 ∧ W.cell? q9 = some u9 ∧ W.cell? q10 = some u10 ∧ W.cell? q11 = some u11 :=
  ⟨cell_kept hW h1, cell_kept hW h2, cell_kept hW h3, cell_kept hW h4, cell_kept hW h5, cell_kept hW h6, cell_kept hW h7, cell_kept hW h8, cell_kept hW h9, cell_kept hW h10, cell_kept hW h11⟩
theorem HSt.upd {w5 wr : World} {base bv K : Nat} {V V' : Int} {neg : Bool} {A : Option Addr} {n c : Nat} {e : Int} (h : HSt w5 wr base bv K V) (hbase : base ≤ w5.heap.size) (hr : (numRd K).R wr base V' [.bool neg, .slice A n c, .int .i64 e]) :
    HSt w5 (W3 wr bv (.bool neg) (.slice A n c) (.int .i64 e)) base bv K V' := by
  obtain ⟨_, _, _, _, _, hb, _⟩ := h.V
  have h1 := h.b
  exact ⟨below3 h.W (by omega) _ _ _, numB_set hb hr (by omega), h1⟩
def sgnR (x r : Int) : Int := if x < 0 then -r else r
theorem sgnR_abs (r x : Int) : (sgnR x r).natAbs = r.natAbs := by unfold sgnR; split <;> omega
theorem mul_sgnR (x r : Int) : x * sgnR x r = (x.natAbs : Int) * r := by
  unfold sgnR
  split
  · rename_i h
    rw [show (x.natAbs : Int) = -x from by omega, Int.mul_neg, Int.neg_mul]
  · rename_i h
    rw [show (x.natAbs : Int) = x from by omega]
theorem signed_o (K J base : Nat) (X Y : Int) (ca cr : List Value) (w : World) (hbase : base ≤ w.heap.size) (ha : (numRd K).R w base X ca) (hr : (numRd J).R w base Y cr) :
    Calls Tryz.prog 11 #[.agg ca.toArray, .agg cr.toArray] w (NumRet J base (sgnR X Y) w) := by
  refine (signed_calls K J base X Y ca cr w hbase ha hr).mono ?_
  rintro e w' ⟨cs, rfl, hr2, hW⟩
  obtain ⟨neg, A, n, c, e, rfl⟩ := num_open hr2
  exact numRet_mk hr2 hW
/-- the sum after i coordinates -/
def lstV (a C R : List Nat) (n : Nat) (p : Int) (i : Nat) : Int := fv (a.getD n 0) * p + dotS a C i - boxS a R i
theorem lstV_succ (a C R : List Nat) (n : Nat) (p : Int) (i : Nat) : lstV a C R n p i + fv (a.getD i 0) * (fv (C.getD i 0) - sgnR (fv (a.getD i 0)) (fv (R.getD i 0))) = lstV a C R n p (i + 1) := by
  unfold lstV
  rw [dotS, boxS, Int.mul_sub, mul_sgnR]
  omega
set_option maxHeartbeats 8000000 in
set_option maxRecDepth 100000 in
theorem least_fail (z : Zn) (cs : List Value) (A : Option Addr) (a : List Nat) (c base : Nat) (w : World) (h : zRd.R w base z cs) (ha : f64.Row 41 w base A a) (hal : a.length ≤ 1099511627776) (hbase : base ≤ w.heap.size) (hno : realB z = false ∨ a.all fin = false ∨ (a.length : Int) ≠ z.N + 1) :
    Calls Tryz.prog 3 #[.agg cs.toArray, .slice A a.length c] w fun e w' => e = .returned (.bool true) ∧ Below w.heap.size w w' := by
  have HZ := Lib.hid (fun W (hW : Below w.heap.size w W) => zRd.below h hW)
  have HFR := Lib.hid (fun W (hW : Below w.heap.size w W) => (show f64.Row 41 W base A a from ha.below hW))
  obtain ⟨AC, AI, AG, AR, cC, cI, cG, cR, rfl, hr, hl⟩ := h
  have hgl := hl.g.2
  have hil := hl.i.2
  have HOF := Lib.hid (fun W (hW : Below w.heap.size w W) => of10_calls z _ W base w.heap.size (HZ.out W hW) hW.size)
  have HRE := Lib.hid (fun csx W (hW : Below w.heap.size w W) (hx : rzRd.R W w.heap.size z csx) => reals_calls z csx W w.heap.size w.heap.size hx hW.size)
  have HBI := Lib.hid (fun W (hW : Below w.heap.size w W) => bits10_calls A a a.length c 41 base w.heap.size W rfl (HFR.out W hW) (Nat.le_trans hal (by decide)) hW.size)
  have HEX := Lib.hid (fun B dc W (hW : Below w.heap.size w W) (hr : uqRow W w.heap.size B a) => exact_calls B a a.length dc 51 w.heap.size w.heap.size W rfl hr hal hW.size)
  have HMM := fun W (hW : Below w.heap.size w W) => mmargin_calls z _ A a a.length c W base (HZ.out W hW) rfl (HFR.out W hW) (Nat.le_trans hal (by decide))
  obtain ⟨o, ho⟩ : ∃ o, marginS z a = o := ⟨_, rfl⟩
  rw [ho] at HMM
  unfold fRet at HMM
  have HO := Lib.hid ho
  have HW := Lib.hid (below_new (Below.refl w.heap.size w) (.cells #[.int .i64 z.N, .slice AC z.C.length cC, .slice AI z.Ids.length cI, .slice AG z.G.length cG, .slice AR z.R.length cR, .bool z.bad] 26))
  have HB := Lib.hid (Blk.new w #[.int .i64 z.N, .slice AC z.C.length cC, .slice AI z.Ids.length cI, .slice AG z.G.length cG, .slice AR z.R.length cR, .bool z.bad] 26)
  have HAW := Lib.hid (fun W => awake_calls W)
  clear ho hr hl ha
  obtain rfl : o = none := HO.out.symm.trans (fits_no hno).1
  simp only [Option.getD_none, Option.isSome_none] at HMM
  replace HMM := Lib.hid HMM
  have hfe : (FloatKind.f64.format.order 0 0 == some .eq) = true := by decide
  go_enter Tryz.func3, Tryz.ntmps3
  go_wp2_with fail
  refine (HOF.out _ HW.out).mono ?_
  rintro e1 w1 ⟨csx, rfl, hx1, hW1⟩
  have H1 := Lib.hid (And.intro (below_next HW.out hW1) (HB.out.below' hW1))
  have HX1 := Lib.hid hx1
  clear hW1 hx1 HOF HW HB
  go_wp2_with fail
  refine (HRE.out csx _ H1.out.1 HX1.out).mono ?_
  rintro e2 w2 ⟨hW2, hh⟩
  have H2 := Lib.hid (And.intro (below_next H1.out.1 hW2) (H1.out.2.below' hW2))
  clear hW2 HRE H1 HX1
  rcases hh with ⟨hrb, rfl⟩ | ⟨hrb, BC, BI, BG, BR, dC, dI, dG, dR, rfl, hrows, _⟩
  · clear hrb hno
    go_wp2_with fail
    obtain ⟨bX, hbX⟩ : ∃ b, w2.heap.size = b := ⟨_, rfl⟩
    have HE0 : Hid (Below w.heap.size w (w2.alloc (.cells #[.int .i64 0, .slice none 0 0, .slice none 0 0, .slice none 0 0, .slice none 0 0] 30)) ∧ Blk (w2.alloc (.cells #[.int .i64 0, .slice none 0 0, .slice none 0 0, .slice none 0 0, .slice none 0 0] 30)) w.heap.size 26 [.int .i64 z.N, .slice AC z.C.length cC, .slice AI z.Ids.length cI, .slice AG z.G.length cG, .slice AR z.R.length cR, .bool z.bad] ∧ Blk (w2.alloc (.cells #[.int .i64 0, .slice none 0 0, .slice none 0 0, .slice none 0 0, .slice none 0 0] 30)) bX 30 [.int .i64 0, .slice none 0 0, .slice none 0 0, .slice none 0 0, .slice none 0 0] ∧ Below w2.heap.size w2 (w2.alloc (.cells #[.int .i64 0, .slice none 0 0, .slice none 0 0, .slice none 0 0, .slice none 0 0] 30))) := ⟨below_new H2.out.1 _, H2.out.2.alloc _, by rw [← hbX]; exact Blk.new _ _ _, below_new (Below.refl _ _) _⟩
    try rw [hbX]
    obtain ⟨wx, hwx⟩ : ∃ W, w2.alloc (.cells #[.int .i64 0, .slice none 0 0, .slice none 0 0, .slice none 0 0, .slice none 0 0] 30) = W := ⟨_, rfl⟩
    rw [hwx] at HE0 ⊢
    clear hwx hbX
    refine (HBI.out _ HE0.out.1).mono ?_
    rintro e3 w3 ⟨B3, c3, rfl, hc3, hr3, hW3⟩
    have HB3 := Lib.hid hr3
    have H3 := Lib.hid (And.intro (below_next HE0.out.1 hW3) (below_next (Below.refl wx.heap.size wx) hW3))
    clear hr3 hW3 hc3
    go_wp2_with fail
    refine (HEX.out B3 c3 _ H3.out.1 HB3.out).mono ?_
    rintro e4 w4 ⟨B4, k4, c4, rfl, hk4, hW4, hE4⟩
    have H4 := Lib.hid (And.intro (below_next H3.out.1 hW4) (below_next H3.out.2 hW4))
    obtain ⟨z0, z1, z2, z3, z4, z5⟩ := six (HE0.out.2.1.below' H4.out.2)
    have HE4 := Lib.hid hE4
    clear hW4 hE4 hk4
    go_wp2_with fail
    refine (HMM.out _ H4.out.1).mono ?_
    rintro e5 w5 ⟨rfl, hW5⟩
    have H5 := Lib.hid (And.intro (below_next H4.out.1 hW5) (below_next H4.out.2 hW5))
    have H45 := Lib.hid hW5
    clear hW5 z0 z1 z2 z3 z4 z5
    go_wp2_with fail
    refine (HAW.out _).mono ?_
    rintro e6 w6 ⟨rfl, hW6⟩
    have H6 := Lib.hid (below_next H5.out.1 hW6)
    clear hW6
    go_wp2
    go_ret
    exact ⟨rfl, H6.out⟩
  · have hN := realB_n hrb
    have hN1 := hN.1
    have hN2 := hN.2
    simp only [realCs]
    obtain ⟨f, hf⟩ : ∃ f, a.all fin = f := ⟨_, rfl⟩
    rw [hf] at HEX hno
    cases f
    · clear hrb hno hrows hN hf
      go_wp2_with fail
      obtain ⟨bX, hbX⟩ : ∃ b, w2.heap.size = b := ⟨_, rfl⟩
      have HE0 : Hid (Below w.heap.size w (w2.alloc (.cells #[.int .i64 z.N, .slice BC z.C.length dC, .slice BI z.Ids.length dI, .slice BG z.G.length dG, .slice BR z.R.length dR] 30)) ∧ Blk (w2.alloc (.cells #[.int .i64 z.N, .slice BC z.C.length dC, .slice BI z.Ids.length dI, .slice BG z.G.length dG, .slice BR z.R.length dR] 30)) w.heap.size 26 [.int .i64 z.N, .slice AC z.C.length cC, .slice AI z.Ids.length cI, .slice AG z.G.length cG, .slice AR z.R.length cR, .bool z.bad] ∧ Blk (w2.alloc (.cells #[.int .i64 z.N, .slice BC z.C.length dC, .slice BI z.Ids.length dI, .slice BG z.G.length dG, .slice BR z.R.length dR] 30)) bX 30 [.int .i64 z.N, .slice BC z.C.length dC, .slice BI z.Ids.length dI, .slice BG z.G.length dG, .slice BR z.R.length dR] ∧ Below w2.heap.size w2 (w2.alloc (.cells #[.int .i64 z.N, .slice BC z.C.length dC, .slice BI z.Ids.length dI, .slice BG z.G.length dG, .slice BR z.R.length dR] 30))) := ⟨below_new H2.out.1 _, H2.out.2.alloc _, by rw [← hbX]; exact Blk.new _ _ _, below_new (Below.refl _ _) _⟩
      try rw [hbX]
      obtain ⟨wx, hwx⟩ : ∃ W, w2.alloc (.cells #[.int .i64 z.N, .slice BC z.C.length dC, .slice BI z.Ids.length dI, .slice BG z.G.length dG, .slice BR z.R.length dR] 30) = W := ⟨_, rfl⟩
      rw [hwx] at HE0 ⊢
      clear hwx hbX
      refine (HBI.out _ HE0.out.1).mono ?_
      rintro e3 w3 ⟨B3, c3, rfl, hc3, hr3, hW3⟩
      have HB3 := Lib.hid hr3
      have H3 := Lib.hid (And.intro (below_next HE0.out.1 hW3) (below_next (Below.refl wx.heap.size wx) hW3))
      clear hr3 hW3 hc3
      go_wp2_with fail
      refine (HEX.out B3 c3 _ H3.out.1 HB3.out).mono ?_
      rintro e4 w4 ⟨B4, k4, c4, rfl, hk4, hW4, hE4⟩
      have H4 := Lib.hid (And.intro (below_next H3.out.1 hW4) (below_next H3.out.2 hW4))
      obtain ⟨z0, z1, z2, z3, z4, z5⟩ := six (HE0.out.2.1.below' H4.out.2)
      have HE4 := Lib.hid hE4
      clear hW4 hE4 hk4
      go_wp2_with fail
      refine (HMM.out _ H4.out.1).mono ?_
      rintro e5 w5 ⟨rfl, hW5⟩
      have H5 := Lib.hid (And.intro (below_next H4.out.1 hW5) (below_next H4.out.2 hW5))
      have H45 := Lib.hid hW5
      clear hW5 z0 z1 z2 z3 z4 z5
      go_wp2_with fail
      refine (HAW.out _).mono ?_
      rintro e6 w6 ⟨rfl, hW6⟩
      have H6 := Lib.hid (below_next H5.out.1 hW6)
      clear hW6
      go_wp2
      go_ret
      exact ⟨rfl, H6.out⟩
    · have hln : (a.length : Int) ≠ z.N + 1 := by
        rcases hno with h | h | h
        · rw [hrb] at h; cases h
        · cases h
        · exact h
      have e1 : ((a.length : Int) != z.N + 1) = true := by simpa using hln
      clear hrb hno hrows hN hf hln
      go_wp2_with fail
      obtain ⟨bX, hbX⟩ : ∃ b, w2.heap.size = b := ⟨_, rfl⟩
      have HE0 : Hid (Below w.heap.size w (w2.alloc (.cells #[.int .i64 z.N, .slice BC z.C.length dC, .slice BI z.Ids.length dI, .slice BG z.G.length dG, .slice BR z.R.length dR] 30)) ∧ Blk (w2.alloc (.cells #[.int .i64 z.N, .slice BC z.C.length dC, .slice BI z.Ids.length dI, .slice BG z.G.length dG, .slice BR z.R.length dR] 30)) w.heap.size 26 [.int .i64 z.N, .slice AC z.C.length cC, .slice AI z.Ids.length cI, .slice AG z.G.length cG, .slice AR z.R.length cR, .bool z.bad] ∧ Blk (w2.alloc (.cells #[.int .i64 z.N, .slice BC z.C.length dC, .slice BI z.Ids.length dI, .slice BG z.G.length dG, .slice BR z.R.length dR] 30)) bX 30 [.int .i64 z.N, .slice BC z.C.length dC, .slice BI z.Ids.length dI, .slice BG z.G.length dG, .slice BR z.R.length dR] ∧ Below w2.heap.size w2 (w2.alloc (.cells #[.int .i64 z.N, .slice BC z.C.length dC, .slice BI z.Ids.length dI, .slice BG z.G.length dG, .slice BR z.R.length dR] 30))) := ⟨below_new H2.out.1 _, H2.out.2.alloc _, by rw [← hbX]; exact Blk.new _ _ _, below_new (Below.refl _ _) _⟩
      try rw [hbX]
      obtain ⟨wx, hwx⟩ : ∃ W, w2.alloc (.cells #[.int .i64 z.N, .slice BC z.C.length dC, .slice BI z.Ids.length dI, .slice BG z.G.length dG, .slice BR z.R.length dR] 30) = W := ⟨_, rfl⟩
      rw [hwx] at HE0 ⊢
      clear hwx hbX
      refine (HBI.out _ HE0.out.1).mono ?_
      rintro e3 w3 ⟨B3, c3, rfl, hc3, hr3, hW3⟩
      have HB3 := Lib.hid hr3
      have H3 := Lib.hid (And.intro (below_next HE0.out.1 hW3) (below_next (Below.refl wx.heap.size wx) hW3))
      clear hr3 hW3 hc3
      go_wp2_with fail
      refine (HEX.out B3 c3 _ H3.out.1 HB3.out).mono ?_
      rintro e4 w4 ⟨B4, k4, c4, rfl, hk4, hW4, hE4⟩
      have H4 := Lib.hid (And.intro (below_next H3.out.1 hW4) (below_next H3.out.2 hW4))
      obtain ⟨z0, z1, z2, z3, z4, z5⟩ := six (HE0.out.2.1.below' H4.out.2)
      have HE4 := Lib.hid hE4
      clear hW4 hE4 hk4
      go_wp2_with fail
      refine (HMM.out _ H4.out.1).mono ?_
      rintro e5 w5 ⟨rfl, hW5⟩
      have H5 := Lib.hid (And.intro (below_next H4.out.1 hW5) (below_next H4.out.2 hW5))
      have H45 := Lib.hid hW5
      clear hW5 z0 z1 z2 z3 z4 z5
      have y0 : w5.cell? ⟨w.heap.size, 0, none⟩ = some (.int .i64 z.N) := (HE0.out.2.1.below' H5.out.2).cell 0
      go_wp2_with fail
      refine (HAW.out _).mono ?_
      rintro e6 w6 ⟨rfl, hW6⟩
      have H6 := Lib.hid (below_next H5.out.1 hW6)
      clear hW6
      go_wp2
      go_ret
      exact ⟨rfl, H6.out⟩
set_option exponentiation.threshold 6000 in
set_option maxHeartbeats 16000000 in
set_option maxRecDepth 100000 in
theorem least_main (z : Zn) (cs : List Value) (A : Option Addr) (a : List Nat) (c base : Nat) (w : World) (h : zRd.R w base z cs) (ha : f64.Row 41 w base A a) (hal : a.length ≤ 1099511627776) (hbase : base ≤ w.heap.size) (n : Nat) (F : FitsF z a n) (hfit : fitsB z a = true) :
    Calls Tryz.prog 3 #[.agg cs.toArray, .slice A a.length c] w fun e w' => e = .returned (.bool true) ∧ Below w.heap.size w w' := by
  have HZ := Lib.hid (fun W (hW : Below w.heap.size w W) => zRd.below h hW)
  have HFR := Lib.hid (fun W (hW : Below w.heap.size w W) => (show f64.Row 41 W base A a from ha.below hW))
  obtain ⟨AC, AI, AG, AR, cC, cI, cG, cR, rfl, hr, hl⟩ := h
  have hgl := hl.g.2
  have hil := hl.i.2
  have HOF := Lib.hid (fun W (hW : Below w.heap.size w W) => of10_calls z _ W base w.heap.size (HZ.out W hW) hW.size)
  have HRE := Lib.hid (fun csx W (hW : Below w.heap.size w W) (hx : rzRd.R W w.heap.size z csx) => reals_calls z csx W w.heap.size w.heap.size hx hW.size)
  have HBI := Lib.hid (fun W (hW : Below w.heap.size w W) => bits10_calls A a a.length c 41 base w.heap.size W rfl (HFR.out W hW) (Nat.le_trans hal (by decide)) hW.size)
  have HEX := Lib.hid (fun B dc W (hW : Below w.heap.size w W) (hr : uqRow W w.heap.size B a) => exact_calls B a a.length dc 51 w.heap.size w.heap.size W rfl hr hal hW.size)
  have HMM := fun W (hW : Below w.heap.size w W) => mmargin_calls z _ A a a.length c W base (HZ.out W hW) rfl (HFR.out W hW) (Nat.le_trans hal (by decide))
  obtain ⟨o, ho⟩ : ∃ o, marginS z a = o := ⟨_, rfl⟩
  rw [ho] at HMM
  unfold fRet at HMM
  have HO := Lib.hid ho
  have HW := Lib.hid (below_new (Below.refl w.heap.size w) (.cells #[.int .i64 z.N, .slice AC z.C.length cC, .slice AI z.Ids.length cI, .slice AG z.G.length cG, .slice AR z.R.length cR, .bool z.bad] 26))
  have HB := Lib.hid (Blk.new w #[.int .i64 z.N, .slice AC z.C.length cC, .slice AI z.Ids.length cI, .slice AG z.G.length cG, .slice AR z.R.length cR, .bool z.bad] 26)
  have HAW := Lib.hid (fun W => awake_calls W)
  clear ho hr hl ha
  have HOR := Lib.hid (show o = rdown 2148 (leastV z a) by rw [← HO.out]; unfold marginS; rw [hfit]; rfl)
  rw [fits_real] at hfit
  simp only [Bool.and_eq_true, decide_eq_true_eq] at hfit
  obtain ⟨⟨hrbt, haf⟩, hln⟩ := hfit
  obtain ⟨mv, hmv⟩ : ∃ m, o.getD 0 = m := ⟨_, rfl⟩
  obtain ⟨bb, hbb⟩ : ∃ b, o.isSome = b := ⟨_, rfl⟩
  rw [hmv, hbb] at HMM
  replace HMM := Lib.hid HMM
  rw [haf] at HEX
  have HRB := Lib.hid hrbt
  have hG : z.G.length ≤ 17592186044416 := Nat.le_trans hgl (by decide)
  have hL : leastV z a = lstV a z.C z.R n ((2 ^ 1074 : Nat) : Int) n - colsS a z.G n z.G.length := by unfold leastV lstV; rw [show z.N.toNat = n from by have := F.N; omega, F.ig]; omega
  obtain ⟨LV, hLV⟩ : ∃ v, leastV z a = v := ⟨_, rfl⟩
  rw [hLV] at hL HOR
  have hLB : LV.natAbs < 2 ^ CapL := by rw [← hLV]; unfold leastV; rw [show z.N.toNat = n from by have := F.N; omega, F.ig]; exact capL_of (leastV_bd F hG z.G.length n (Nat.le_refl _) (Nat.le_refl _))
  obtain ⟨p, hp⟩ : ∃ p : Int, ((2 ^ 1074 : Nat) : Int) = p := ⟨_, rfl⟩
  have hpb : p.natAbs ≤ fMax := by rw [← hp, Int.natAbs_natCast]; exact pow1074_le
  have HP := Lib.hid hp
  rw [hp] at hL
  have HLE := Lib.hid hL
  have HFa := Lib.hid (fun i (hi : i ≤ n) => all_getD F.af (show i < a.length by have := F.al; omega))
  have HFc := Lib.hid (fun i (hi : i < n) => all_getD F.cf (show i < z.C.length by have := F.cl; omega))
  have HFr := Lib.hid (fun i (hi : i < n) => all_getD F.rf (show i < z.R.length by have := F.rl; omega))
  have HVB1 : Hid (∀ i k, i ≤ n → k ≤ z.G.length → (lstV a z.C z.R n p i - colsS a z.G n k).natAbs < 2 ^ CapL) := by
    intro i k hi hk
    refine capL_of ?_
    have h1 := dotS_bd F.af F.cf i (by have := F.al; omega) (by have := F.cl; omega)
    have h2 := natAbs_mul_le (fv_le_max (HFa.out n (Nat.le_refl _))) hpb
    have h3 := (colsS_bd F.af (n := n) (by have := F.al; omega) k hk (fun j hj => ⟨(F.gs j (by omega)).1, by rw [(F.gs j (by omega)).2]; exact Nat.le_refl _⟩)).2
    have h4 := boxS_bd F.af F.rf i (by have := F.al; omega) (by have := F.rl; omega)
    have hn := F.n2
    rw [show fMax * fMax = F2 from rfl] at h2
    have e1 : i * F2 ≤ 256 * F2 := Nat.mul_le_mul_right _ (by omega)
    have e0 : n * F2 ≤ 256 * F2 := Nat.mul_le_mul_right _ hn
    have e2 : k * (n * F2) ≤ 17592186044416 * (256 * F2) := Nat.mul_le_mul (by omega) e0
    unfold lstV
    generalize fv (a.getD n 0) * p = q at *
    generalize F2 = f at *
    omega
  have HGS := Lib.hid (fun j (hj : j < z.G.length) => F.gs j hj)
  have HAF := Lib.hid haf
  have hNn := F.N
  have hn1 := F.n1
  have hn2 := F.n2
  have hal1 : a.length ≤ n + 1 := by have := F.al; omega
  have hal2 : n + 1 ≤ a.length := by have := F.al; omega
  have hcl1 : n ≤ z.C.length := by have := F.cl; omega
  have hrl1 : n ≤ z.R.length := by have := F.rl; omega
  have HNn := Lib.hid hNn
  have hN1 : 1 ≤ z.N := by omega
  have hN2 : z.N ≤ 256 := by omega
  have q2 : (bb == bb) = true := by cases bb <;> rfl
  have q3 : ((mv : Int) == (mv : Int)) = true := by simp
  have HMV := Lib.hid hmv
  have HBB := Lib.hid hbb
  clear hrbt F hL hLV hp hpb hNn hmv hbb haf
  go_enter Tryz.func3, Tryz.ntmps3
  go_wp2_with fail
  refine (HOF.out _ HW.out).mono ?_
  rintro e1 w1 ⟨csx, rfl, hx1, hW1⟩
  have H1 := Lib.hid (And.intro (below_next HW.out hW1) (HB.out.below' hW1))
  have HX1 := Lib.hid hx1
  clear hW1 hx1 HOF HW HB
  go_wp2_with fail
  refine (HRE.out csx _ H1.out.1 HX1.out).mono ?_
  rintro e2 w2 ⟨hW2, hh⟩
  have H2 := Lib.hid (And.intro (below_next H1.out.1 hW2) (H1.out.2.below' hW2))
  clear hW2 HRE H1 HX1
  rcases hh with ⟨hrb, rfl⟩ | ⟨hrb, BC, BI, BG, BR, dC, dI, dG, dR, rfl, hrows, _⟩
  · rw [HRB.out] at hrb; cases hrb
  · have HRW := Lib.hid hrows
    simp only [realCs]
    have e1 : ((a.length : Int) != z.N + 1) = false := by simpa using hln
    clear hrb hrows hln
    go_wp2_with fail
    obtain ⟨bX, hbX⟩ : ∃ b, w2.heap.size = b := ⟨_, rfl⟩
    have HE0 : Hid (Below w.heap.size w (w2.alloc (.cells #[.int .i64 z.N, .slice BC z.C.length dC, .slice BI z.Ids.length dI, .slice BG z.G.length dG, .slice BR z.R.length dR] 30)) ∧ Blk (w2.alloc (.cells #[.int .i64 z.N, .slice BC z.C.length dC, .slice BI z.Ids.length dI, .slice BG z.G.length dG, .slice BR z.R.length dR] 30)) w.heap.size 26 [.int .i64 z.N, .slice AC z.C.length cC, .slice AI z.Ids.length cI, .slice AG z.G.length cG, .slice AR z.R.length cR, .bool z.bad] ∧ Blk (w2.alloc (.cells #[.int .i64 z.N, .slice BC z.C.length dC, .slice BI z.Ids.length dI, .slice BG z.G.length dG, .slice BR z.R.length dR] 30)) bX 30 [.int .i64 z.N, .slice BC z.C.length dC, .slice BI z.Ids.length dI, .slice BG z.G.length dG, .slice BR z.R.length dR] ∧ Below w2.heap.size w2 (w2.alloc (.cells #[.int .i64 z.N, .slice BC z.C.length dC, .slice BI z.Ids.length dI, .slice BG z.G.length dG, .slice BR z.R.length dR] 30))) := ⟨below_new H2.out.1 _, H2.out.2.alloc _, by rw [← hbX]; exact Blk.new _ _ _, below_new (Below.refl _ _) _⟩
    try rw [hbX]
    obtain ⟨wx, hwx⟩ : ∃ W, w2.alloc (.cells #[.int .i64 z.N, .slice BC z.C.length dC, .slice BI z.Ids.length dI, .slice BG z.G.length dG, .slice BR z.R.length dR] 30) = W := ⟨_, rfl⟩
    rw [hwx] at HE0 ⊢
    clear hwx hbX
    refine (HBI.out _ HE0.out.1).mono ?_
    rintro e3 w3 ⟨B3, c3, rfl, hc3, hr3, hW3⟩
    have HB3 := Lib.hid hr3
    have H3 := Lib.hid (And.intro (below_next HE0.out.1 hW3) (below_next (Below.refl wx.heap.size wx) hW3))
    clear hr3 hW3 hc3
    go_wp2_with fail
    refine (HEX.out B3 c3 _ H3.out.1 HB3.out).mono ?_
    rintro e4 w4 ⟨B4, k4, c4, rfl, hk4, hW4, hE4⟩
    have H4 := Lib.hid (And.intro (below_next H3.out.1 hW4) (below_next H3.out.2 hW4))
    obtain ⟨z0, z1, z2, z3, z4, z5⟩ := six (HE0.out.2.1.below' H4.out.2)
    have HE4 := Lib.hid hE4
    clear hW4 hE4 hk4
    go_wp2_with fail
    refine (HMM.out _ H4.out.1).mono ?_
    rintro e5 w5 ⟨rfl, hW5⟩
    have H5 := Lib.hid (And.intro (below_next H4.out.1 hW5) (below_next H4.out.2 hW5))
    have H45 := Lib.hid hW5
    clear hW5 z0 z1 z2 z3 z4 z5
    have y0 : w5.cell? ⟨w.heap.size, 0, none⟩ = some (.int .i64 z.N) := (HE0.out.2.1.below' H5.out.2).cell 0
    have HE4b := HE4.out trivial
    obtain ⟨hk4e, hrow4⟩ := HE4b
    obtain rfl : a.length = k4 := hk4e.symm
    have HXC := Lib.hid (fun W (hW : Below w5.heap.size w5 W) => (HE0.out.2.2.1.below' H5.out.2).below' hW)
    have HRB5 := Lib.hid (fun W (hW : Below w5.heap.size w5 W) => HRW.out.below (below_next HE0.out.2.2.2 (below_next H5.out.2 hW)))
    have HAR := Lib.hid (fun W (hW : Below w5.heap.size w5 W) => (show nRd.Row 47 W w.heap.size B4 (a.map fv) from hrow4.below (below_next H45.out hW)))
    have HBW := Lib.hid (fun W (hW : Below w5.heap.size w5 W) => below_next H5.out.1 hW)
    clear hk4e hrow4 HE4 HMM HEX HBI HB3
    have hx0 : w5.cell? ⟨bX, 0, none⟩ = some (.int .i64 z.N) := (HXC.out w5 (Below.refl _ _)).cell 0
    obtain ⟨pn, nn, An, ln, kn, en, hB4, rn, n0, n1, n2⟩ := nat_elem (HAR.out w5 (Below.refl _ _)) (i := n) (by rw [List.length_map]; omega)
    subst hB4
    rw [getD_map_fv (by omega)] at rn
    have hzt : z.N.toNat = n := by have := HNn.out; omega
    have hiN : z.N < (a.length : Int) := by have := HNn.out; omega
    have hiN0 : (0 : Int) ≤ z.N := by omega
    have hV0 : Hid (HSt w5 (w5.alloc (.cells #[.bool nn, .slice An ln kn, .int .i64 en] 47)) w.heap.size w5.heap.size 2148 (lstV a z.C z.R n p 0 - colsS a z.G n 0)) := by
      refine ⟨below_new (Below.refl _ _) _, ?_, Nat.le_refl _⟩
      have h2 := num_raise (J := 1074) rn
      rw [HP.out] at h2
      exact numB_new (by unfold lstV; rw [dotS, boxS, colsS, Int.add_zero, Int.sub_zero, Int.sub_zero]; exact h2)
    clear rn
    go_wp2
    clear n0 n1 n2 hx0 y0 e1 hzt
    have hbs5 : w.heap.size ≤ w5.heap.size := H5.out.1.size
    go_loopw [12, 13] (fun i _ wr => ∃ k : Nat, k ≤ n ∧ i = .int .i64 k ∧ Hid (HSt w5 wr w.heap.size w5.heap.size 2148 (lstV a z.C z.R n p k - colsS a z.G n 0))) (fun i _ _ => n - (intOf i).toNat)
    case atStart => exact ⟨0, by omega, rfl, hV0.out⟩
    case round =>
      obtain ⟨k, hk, rfl, hS⟩ := hrel
      have hx0 : wr.cell? ⟨bX, 0, none⟩ = some (.int .i64 z.N) := (HXC.out wr hS.out.W).cell 0
      by_cases hlt : k < n
      · have hik : (k : Int) < z.N := by have := HNn.out; omega
        have hi3 : (k : Int) < (a.length : Int) := by omega
        have hi0 : (0 : Int) ≤ (k : Int) := by omega
        go_upto_region 10 with fail
        go_cut [13] from 63 to 92 (fun s wc => ∃ bc : Nat, s = .pointer (some ⟨bc, 0, none⟩) ∧ Hid (HIn w5 wc w.heap.size w5.heap.size bc 2148 1074 (lstV a z.C z.R n p k - colsS a z.G n 0) (fv (z.C.getD k 0) - sgnR (fv (a.getD k 0)) (fv (z.R.getD k 0)))))
        case first =>
          have c1 : wr.cell? ⟨bX, 1, none⟩ = some (.slice BC z.C.length dC) := (HXC.out wr hS.out.W).cell 1
          have c4 : wr.cell? ⟨bX, 4, none⟩ = some (.slice BR z.R.length dR) := (HXC.out wr hS.out.W).cell 4
          obtain ⟨pa, na, Aa, la, ka, ea, hBC, ra, a0, a1, a2⟩ := nat_elem (HRB5.out wr hS.out.W).C (i := k) (by rw [List.length_map]; omega)
          obtain ⟨pb, nb, Ab, lb, kb, eb, hBR, rb, b0, b1, b2⟩ := nat_elem (HRB5.out wr hS.out.W).R (i := k) (by rw [List.length_map]; omega)
          obtain ⟨pd, nd, Ad, ld, kd, ed, hBA, rd, d0, d1, d2⟩ := nat_elem (HAR.out wr hS.out.W) (i := k) (by rw [List.length_map]; omega)
          subst hBC hBR
          cases hBA
          rw [getD_map_fv (by omega)] at ra rb rd
          have hi1 : (k : Int) < (z.C.length : Int) := by omega
          have hi2 : (k : Int) < (z.R.length : Int) := by omega
          have hcr := fv_capL (HFr.out k hlt)
          have hcc := fv_capL (HFc.out k hlt)
          have HSG := Lib.hid (fun W (hW : Below wr.heap.size wr W) => signed_o 1074 1074 w.heap.size (fv (a.getD k 0)) (fv (z.R.getD k 0)) _ _ W (Nat.le_trans (HBW.out wr hS.out.W).size hW.size) (Rd.below _ rd hW) (Rd.below _ rb hW))
          have HMN := Lib.hid (fun W cx (hW : Below wr.heap.size wr W) (hx : (numRd 1074).R W w.heap.size (sgnR (fv (a.getD k 0)) (fv (z.R.getD k 0))) cx) => minus_o 1074 w.heap.size (fv (z.C.getD k 0)) (sgnR (fv (a.getD k 0)) (fv (z.R.getD k 0))) _ cx W (Nat.le_trans (HBW.out wr hS.out.W).size hW.size) (Rd.below _ ra hW) hx hcc (by rw [sgnR_abs]; exact hcr) (by decide))
          clear ra rb rd hcr hcc
          go_region_held3 (fun W => W.cell? ⟨bX, 1, none⟩ = some (.slice (some pa) z.C.length dC) ∧ W.cell? ⟨bX, 4, none⟩ = some (.slice (some pb) z.R.length dR) ∧ W.cell? (pa.add (k * 3)) = some (.bool na) ∧ W.cell? ⟨(pa.add (k * 3)).block, (pa.add (k * 3)).off + 1, none⟩ = some (.slice Aa la ka) ∧ W.cell? ⟨(pa.add (k * 3)).block, (pa.add (k * 3)).off + 2, none⟩ = some (.int .i64 ea) ∧ W.cell? (pb.add (k * 3)) = some (.bool nb) ∧ W.cell? ⟨(pb.add (k * 3)).block, (pb.add (k * 3)).off + 1, none⟩ = some (.slice Ab lb kb) ∧ W.cell? ⟨(pb.add (k * 3)).block, (pb.add (k * 3)).off + 2, none⟩ = some (.int .i64 eb) ∧ W.cell? (pn.add (k * 3)) = some (.bool nd) ∧ W.cell? ⟨(pn.add (k * 3)).block, (pn.add (k * 3)).off + 1, none⟩ = some (.slice Ad ld kd) ∧ W.cell? ⟨(pn.add (k * 3)).block, (pn.add (k * 3)).off + 2, none⟩ = some (.int .i64 ed))
            (first | (refine keep11 c1 c4 a0 a1 a2 b0 b1 b2 d0 d1 d2 ?_; (repeat (first | exact H8.out | exact H7.out | exact Below.refl _ _ | (with_reducible apply below_drewN) | (with_reducible apply Below.drew) | (with_reducible apply below_new))); done) | (refine keep11 c1 c4 a0 a1 a2 b0 b1 b2 d0 d1 d2 ?_; refine below3 ?_ (by first | exact H7.out.size | exact Nat.le_refl _) _ _ _; (repeat (first | exact H8.out | exact Below.refl _ _ | (with_reducible apply below_drewN) | (with_reducible apply Below.drew) | (with_reducible apply below_new))); done) | ((try dsimp only); (repeat' apply And.intro) <;> go_keep))
            (first
              | (go_at_call 11; refine (HSG.out _ (by (repeat (first  | exact Below.refl _ _ | (with_reducible apply below_drewN) | (with_reducible apply Below.drew) | (with_reducible apply below_new))))).mono ?_; rintro e7 w7 ⟨m7, A7, l7, k7, x7, rfl, hr7, hW7⟩; have H7 : Hid (Below wr.heap.size wr w7) := below_next (by (repeat (first  | exact Below.refl _ _ | (with_reducible apply below_drewN) | (with_reducible apply Below.drew) | (with_reducible apply below_new)))) hW7; have HR7 := Lib.hid hr7; (first | (have HZ7 := Lib.hid (Blk.below' (blk_new' wr.drew wr.heap.size (by rfl) #[.bool false, .slice none 0 0, .int .i64 0] 47) hW7)) | skip); clear hr7 hW7)
              | (go_at_call 10; refine (HMN.out _ _ (by (repeat (first | exact H7.out | exact Below.refl _ _ | (with_reducible apply below_drewN) | (with_reducible apply Below.drew) | (with_reducible apply below_new)))) (by first | exact HR7.out | exact Rd.below _ HR7.out (below_new (Below.refl _ _) _))).mono ?_; rintro e8 w8 ⟨m8, A8, l8, k8, x8, rfl, hr8, hW8⟩; have H8 : Hid (Below wr.heap.size wr w8) := below_next (by (repeat (first | exact H7.out | exact Below.refl _ _ | (with_reducible apply below_drewN) | (with_reducible apply Below.drew) | (with_reducible apply below_new)))) hW8; have HR8 := Lib.hid hr8; (first | (have HZ8 := Lib.hid (HZ7.out.below' hW8); obtain ⟨z0, z1, z2⟩ := three HZ8.out; have f0 := HZ8.out.frozen 0; have f1 := HZ8.out.frozen 1; have f2 := HZ8.out.frozen 2) | (have HZ8 := Lib.hid (Blk.below' (Blk.new w7 #[.bool false, .slice none 0 0, .int .i64 0] 47) hW8); obtain ⟨z0, z1, z2⟩ := three HZ8.out; have f0 := HZ8.out.frozen 0; have f1 := HZ8.out.frozen 1; have f2 := HZ8.out.frozen 2) | skip); clear hr8 hW8))
          all_goals (
            go_wp2_with fail
            go_meet
            have hvl := hS.out.V.lt
            first
              | (refine ⟨w8.heap.size, rfl, ?_⟩; exact hin_new (hS.out.next H8.out) HR8.out)
              | (refine ⟨w7.heap.size, rfl, ?_⟩; exact hin_set (hS.out.next H8.out) HZ8.out (by have h1 := H7.out.size; omega) hbs5 HR8.out)
              | (refine ⟨wr.heap.size, rfl, ?_⟩; exact hin_set (hS.out.next H8.out) HZ8.out (by omega) hbs5 HR8.out))
        case rest =>
          obtain ⟨bc, rfl, hT⟩ := hcut
          obtain ⟨pd, nd, Ad, ld, kd, ed, hBA, rd, b0, b1, b2⟩ := nat_elem (HAR.out wc hT.out.W) (i := k) (by rw [List.length_map]; omega)
          cases hBA
          rw [getD_map_fv (by omega)] at rd
          have hbsq : w.heap.size ≤ wc.heap.size := (HBW.out wc hT.out.W).size
          have hca := HFa.out k (by omega)
          have hcc0 : (fv (z.C.getD k 0) - sgnR (fv (a.getD k 0)) (fv (z.R.getD k 0))).natAbs ≤ 2 * fMax := by
            have h1 := fv_le_max (HFc.out k hlt)
            have h2 := fv_le_max (HFr.out k hlt)
            have h3 := sgnR_abs (fv (z.R.getD k 0)) (fv (a.getD k 0))
            generalize fMax = M at *
            omega
          have hcc : (fv (z.C.getD k 0) - sgnR (fv (a.getD k 0)) (fv (z.R.getD k 0))).natAbs < 2 ^ CapL := capL_of (Nat.le_trans hcc0 (Nat.mul_le_mul (by decide) (Nat.le_mul_of_pos_left _ fmax_pos)))
          have hpr : (fv (a.getD k 0) * (fv (z.C.getD k 0) - sgnR (fv (a.getD k 0)) (fv (z.R.getD k 0)))).natAbs < 2 ^ CapL := by
            refine capL_of (Nat.le_trans (mul_le2 (fv_le_max hca) hcc0) ?_)
            rw [Nat.mul_left_comm]
            exact Nat.mul_le_mul_right _ (by decide)
          have hvb1 := HVB1.out k 0 (by omega) (by omega)
          obtain ⟨neg, A2, n2, c2, ex, hvb, hvr⟩ := hT.out.V
          obtain ⟨s0, s1, s2⟩ := three hvb
          obtain ⟨ncg, A6, n6, c6, x6, hcbk, hcr⟩ := hT.out.C
          obtain ⟨g0, g1, g2⟩ := three hcbk
          have hbcb := hT.out.bc
          have hb5 := hT.out.b
          have HVB := Lib.hid (fun W (hW : Below wc.heap.size wc W) => hvb.below' hW)
          have HTM := Lib.hid (fun W (hW : Below wc.heap.size wc W) => times_o 1074 1074 w.heap.size (fv (a.getD k 0)) (fv (z.C.getD k 0) - sgnR (fv (a.getD k 0)) (fv (z.R.getD k 0))) _ _ W (Nat.le_trans hbsq hW.size) (Rd.below _ rd hW) (Rd.below _ hcr hW) (fv_capL hca) hcc (by decide) (by decide))
          have HPL := Lib.hid (fun W cx (hW : Below wc.heap.size wc W) (hx : (numRd 2148).R W w.heap.size (fv (a.getD k 0) * (fv (z.C.getD k 0) - sgnR (fv (a.getD k 0)) (fv (z.R.getD k 0)))) cx) => plus_o 2148 w.heap.size (lstV a z.C z.R n p k - colsS a z.G n 0) (fv (a.getD k 0) * (fv (z.C.getD k 0) - sgnR (fv (a.getD k 0)) (fv (z.R.getD k 0)))) _ cx W (Nat.le_trans hbsq hW.size) (Rd.below _ hvr hW) hx hvb1 hpr (by decide))
          have HE : Hid (lstV a z.C z.R n p k - colsS a z.G n 0 + fv (a.getD k 0) * (fv (z.C.getD k 0) - sgnR (fv (a.getD k 0)) (fv (z.R.getD k 0))) = lstV a z.C z.R n p (k + 1) - colsS a z.G n 0) := by rw [Hid, ← lstV_succ]; omega
          clear hvb hvr rd hcbk hcr hca hcc0 hcc hpr hvb1
          go_wp2
          go_region_with (first
            | (go_at_call 13; refine (HTM.out _ (by (repeat (first  | exact Below.refl _ _ | (with_reducible apply below_drewN) | (with_reducible apply Below.drew) | (with_reducible apply below_new))))).mono ?_; rintro e8 w8 ⟨m8, A8, l8, k8, x8, rfl, hr8, hW8⟩; have H8 : Hid (Below wc.heap.size wc w8) := below_next (by (repeat (first  | exact Below.refl _ _ | (with_reducible apply below_drewN) | (with_reducible apply Below.drew) | (with_reducible apply below_new)))) hW8; have HR8 := Lib.hid hr8; obtain ⟨p0, p1, p2⟩ := three (HVB.out _ H8.out); clear hr8 hW8)
            | (go_at_call 12; refine (HPL.out _ _ (by (repeat (first | exact H8.out | exact Below.refl _ _ | (with_reducible apply below_drewN) | (with_reducible apply Below.drew) | (with_reducible apply below_new)))) (by first | exact HR8.out)).mono ?_; rintro e9 w9 ⟨m9, A9, l9, k9, x9, rfl, hr9, hW9⟩; have H9 : Hid (Below wc.heap.size wc w9) := below_next (by (repeat (first | exact H8.out | exact Below.refl _ _ | (with_reducible apply below_drewN) | (with_reducible apply Below.drew) | (with_reducible apply below_new)))) hW9; have HR9 := Lib.hid hr9; obtain ⟨r0, r1, r2⟩ := three (HVB.out _ H9.out); have f0 := (HVB.out _ H9.out).frozen 0; have f1 := (HVB.out _ H9.out).frozen 1; have f2 := (HVB.out _ H9.out).frozen 2; clear hr9 hW9))
          all_goals (
            rw [HE.out] at HR9
            go_wp2
            go_roundw
            case rel => exact ⟨k + 1, by omega, by go_num, (hT.out.next H9.out).updV hbs5 HR9.out⟩
            case measure => simp [intOf]; omega)
      · obtain rfl : n = k := by omega
        have hik : ¬ (n : Int) < z.N := by have := HNn.out; omega
        go_wp2
        clear hx0 hik hlt
        go_loopw [14] (fun i wr => ∃ k : Nat, k ≤ z.G.length ∧ i = .int .i64 k ∧ Hid (HSt w5 wr w.heap.size w5.heap.size 2148 (lstV a z.C z.R n p n - colsS a z.G n k))) (fun i _ => z.G.length - (intOf i).toNat)
        case atStart => exact ⟨0, by omega, rfl, hS.out⟩
        case round =>
          obtain ⟨k, hk, rfl, hS⟩ := hrel
          have c3 : wr.cell? ⟨bX, 3, none⟩ = some (.slice BG z.G.length dG) := (HXC.out wr hS.out.W).cell 3
          by_cases hlt : k < z.G.length
          · obtain ⟨b, B, c, hBG, hcg, hrow⟩ := gat (HRB5.out wr hS.out.W).G hlt
            subst hBG
            obtain ⟨hlf, hll⟩ := HGS.out k hlt
            obtain ⟨l, hl⟩ : ∃ l, z.G.getD k [] = l := ⟨_, rfl⟩
            rw [hl] at hlf hll hcg hrow
            have hi1 : (k : Int) < (z.G.length : Int) := by omega
            have hi3 : (0 : Int) ≤ (k : Int) := by omega
            have hbs := (HBW.out wr hS.out.W).size
            have hcapd : (dotS a l l.length).natAbs < 2 ^ CapL := capL_of (Nat.le_trans (dotS_bd HAF.out hlf l.length (by omega) (Nat.le_refl _)) (Nat.mul_le_mul_right _ (by omega)))
            obtain ⟨neg, A2, n2, c2, ex, hvb, hvr⟩ := hS.out.V
            have hbx := hS.out.b
            obtain ⟨s0, s1, s2⟩ := three hvb
            have HVB := Lib.hid (fun W (hW : Below wr.heap.size wr W) => hvb.below' hW)
            have HWC := Lib.hid (fun W (hW : Below wr.heap.size wr W) => weighs_o (some pn) B a l a.length l.length c4 c 47 47 w.heap.size W rfl rfl (HAR.out W (below_next hS.out.W hW)) (hrow.below hW) HAF.out hlf (by omega) (by omega) hal (Nat.le_trans hbs hW.size))
            have HSZ := Lib.hid (fun W cs (hr : mRd2.R W w.heap.size (dotS a l l.length) cs) => size_o 2148 w.heap.size (dotS a l l.length) cs W hr)
            have HMN := Lib.hid (fun W cx (hW : Below wr.heap.size wr W) (hx : mRd2.R W w.heap.size ((dotS a l l.length).natAbs : Int) cx) => minus_o 2148 w.heap.size (lstV a z.C z.R n p n - colsS a z.G n k) ((dotS a l l.length).natAbs : Int) _ cx W (Nat.le_trans hbs hW.size) (Rd.below _ hvr hW) hx (HVB1.out n k (Nat.le_refl _) hk) (by rw [Int.natAbs_natCast]; exact hcapd) (by decide))
            have HE : Hid (lstV a z.C z.R n p n - colsS a z.G n k - ((dotS a l l.length).natAbs : Int) = lstV a z.C z.R n p n - colsS a z.G n (k + 1)) := by rw [Hid, colsS, hl, hll]; omega
            clear hvb hvr hrow hlf hll hl hcapd
            go_wp2
            go_region_with (first
              | (go_at_call 15; refine (HWC.out _ (by (repeat (first  | exact Below.refl _ _ | (with_reducible apply below_drewN) | (with_reducible apply Below.drew) | (with_reducible apply below_new))))).mono ?_; rintro e7 w7 ⟨m2, B2, l2, k2, e2, rfl, hr2, hW2⟩; have H7 : Hid (Below wr.heap.size wr w7) := below_next (by (repeat (first  | exact Below.refl _ _ | (with_reducible apply below_drewN) | (with_reducible apply Below.drew) | (with_reducible apply below_new)))) hW2; have HR7 := Lib.hid hr2; obtain ⟨q0, q1, q2⟩ := three (HVB.out _ H7.out); clear hr2 hW2)
              | (go_at_call 14; refine (HSZ.out _ _ (by first | exact HR7.out)).mono ?_; rintro e8 w8 ⟨m3, B3', l3, k3, e3, rfl, hr3, hW3⟩; have H8 : Hid (Below wr.heap.size wr w8) := below_next (by (repeat (first | exact H7.out | exact Below.refl _ _ | (with_reducible apply below_drewN) | (with_reducible apply Below.drew) | (with_reducible apply below_new)))) hW3; have HR8 := Lib.hid hr3; obtain ⟨p0, p1, p2⟩ := three (HVB.out _ H8.out); clear hr3 hW3)
              | (go_at_call 10; refine (HMN.out _ _ (by (repeat (first | exact H8.out | exact Below.refl _ _ | (with_reducible apply below_drewN) | (with_reducible apply Below.drew) | (with_reducible apply below_new)))) (by first | exact HR8.out)).mono ?_; rintro e9 w9 ⟨m4, B4', l4, k4, e4, rfl, hr4, hW4⟩; have H9 : Hid (Below wr.heap.size wr w9) := below_next (by (repeat (first | exact H8.out | exact Below.refl _ _ | (with_reducible apply below_drewN) | (with_reducible apply Below.drew) | (with_reducible apply below_new)))) hW4; have HR9 := Lib.hid hr4; obtain ⟨r0, r1, r2⟩ := three (HVB.out _ H9.out); have f0 := (HVB.out _ H9.out).frozen 0; have f1 := (HVB.out _ H9.out).frozen 1; have f2 := (HVB.out _ H9.out).frozen 2; clear hr4 hW4))
            all_goals (
              rw [HE.out] at HR9
              go_wp2
              go_roundw
              case rel => exact ⟨k + 1, by omega, by go_num, (hS.out.next H9.out).upd hbs5 HR9.out⟩
              case measure => simp [intOf]; omega)
          · obtain rfl : k = z.G.length := by omega
            have hS2 := hS.out
            rw [← HLE.out] at hS2
            have HS2 := Lib.hid hS2
            obtain ⟨neg, A2, n2, c2, ex, hvb, hvr⟩ := hS2.V
            obtain ⟨s0, s1, s2⟩ := three hvb
            have hbs := (HBW.out wr hS2.W).size
            have hbv := hS2.b
            have HRD := round_calls 2148 w.heap.size CapL LV _ wr hbs hvr hLB (by decide) (by decide) (by decide)
            rw [← HOR.out] at HRD
            unfold optRet at HRD
            rw [HMV.out, HBB.out] at HRD
            replace HRD := Lib.hid HRD
            have HAB := Lib.hid (fun W => apibits_calls mv W)
            clear hvb hvr hS2 hlt
            go_wp2_with fail
            refine HRD.out.mono ?_
            rintro e7 w7 ⟨rfl, hW7⟩
            have H7 := Lib.hid (HBW.out _ (below_next HS2.out.W hW7))
            clear hW7 s0 s1 s2 c3
            go_wp2_with fail
            refine (HAB.out _).mono ?_
            rintro e8 w' ⟨rfl, rfl⟩
            go_wp2_with fail
            refine (HAW.out _).mono ?_
            rintro e6 w6 ⟨rfl, hW6⟩
            have H6 := Lib.hid (below_next H7.out hW6)
            clear hW6
            go_wp2
            go_ret
            exact ⟨rfl, H6.out⟩
end Go.Proofs.YtlcigkgiiamgoaaGreatDoor
