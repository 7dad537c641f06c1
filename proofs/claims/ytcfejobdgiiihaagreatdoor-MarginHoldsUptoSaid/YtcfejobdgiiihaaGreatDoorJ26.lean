/- Walks and plain laws of this seat's functions, part 26: D4 D5. -/
import Derived.Test.YtcfejobdgiiihaaGreatDoorJ17
import Derived.Test.YtcfejobdgiiihaaGreatDoorJ18
import Derived.Test.YtcfejobdgiiihaaGreatDoorJ22
import Derived.Test.YtcfejobdgiiihaaGreatDoorJ25
set_option linter.unusedVariables false
set_option linter.unusedSimpArgs false
namespace Go.Proofs.YtcfejobdgiiihaaGreatDoor
open Go.RowKit
attribute [local go_sem ↓] Go.wp_at_zero Go.wp_at_succ

/-! ### the law MarginHolds -/
abbrev uqRow (W : World) (b : Nat) (A : Option Addr) (xs : List Nat) : Prop := u64.Row 50 W b A xs
set_option maxHeartbeats 8000000 in
set_option maxRecDepth 100000 in
theorem holds_fail (z : Zn) (cs : List Value) (A AE AS : Option Addr) (a : List Nat) (e s : List Int) (c ce cs' base : Nat) (depth : Int) (w : World) (h : zRd.R w base z cs) (ha : f64.Row 47 w base A a) (he : i64.Row 3 w base AE e) (hs : i64.Row 3 w base AS s) (hal : a.length ≤ 1099511627776) (hel : e.length ≤ 17592186044416) (hsl : s.length ≤ 17592186044416) (hbase : base ≤ w.heap.size) (hno : realB z = false ∨ a.all fin = false ∨ (a.length : Int) ≠ z.N + 1) :
    Calls Tryz.prog 5 #[.agg cs.toArray, .slice A a.length c, .slice AE e.length ce, .slice AS s.length cs', .int .i64 depth] w fun e w' => e = .returned (.bool true) ∧ Below w.heap.size w w' := by
  have HZ := Lib.hid (fun W (hW : Below w.heap.size w W) => zRd.below h hW)
  have HFR := Lib.hid (fun W (hW : Below w.heap.size w W) => (show f64.Row 47 W base A a from ha.below hW))
  obtain ⟨AC, AI, AG, AR, cC, cI, cG, cR, rfl, hr, hl⟩ := h
  have hgl := hl.g.2
  have hil := hl.i.2
  have HOF := Lib.hid (fun W (hW : Below w.heap.size w W) => of10_calls z _ W base w.heap.size (HZ.out W hW) hW.size)
  have HRE := Lib.hid (fun csx W (hW : Below w.heap.size w W) (hx : rzRd.R W w.heap.size z csx) => reals_calls z csx W w.heap.size w.heap.size hx hW.size)
  have HBI := Lib.hid (fun W (hW : Below w.heap.size w W) => bits10_calls A a a.length c 47 base w.heap.size W rfl (HFR.out W hW) (Nat.le_trans hal (by decide)) hW.size)
  have HEX := Lib.hid (fun B dc W (hW : Below w.heap.size w W) (hr : uqRow W w.heap.size B a) => exact_calls B a a.length dc 50 w.heap.size w.heap.size W rfl hr hal hW.size)
  have HMM := fun W (hW : Below w.heap.size w W) => mmargin_calls z _ A a a.length c W base (HZ.out W hW) rfl (HFR.out W hW) (Nat.le_trans hal (by decide))
  obtain ⟨o, ho⟩ : ∃ o, marginS z a = o := ⟨_, rfl⟩
  rw [ho] at HMM
  unfold fRet at HMM
  have HO := Lib.hid ho
  have HW := Lib.hid (below_new (Below.refl w.heap.size w) (.cells #[.int .i64 z.N, .slice AC z.C.length cC, .slice AI z.Ids.length cI, .slice AG z.G.length cG, .slice AR z.R.length cR, .bool z.bad] 42))
  have HB := Lib.hid (Blk.new w #[.int .i64 z.N, .slice AC z.C.length cC, .slice AI z.Ids.length cI, .slice AG z.G.length cG, .slice AR z.R.length cR, .bool z.bad] 42)
  have HAW := Lib.hid (fun W => awake_calls W)
  clear ho hr hl ha
  obtain rfl : o = none := HO.out.symm.trans (fits_no hno).1
  simp only [Option.getD_none, Option.isSome_none] at HMM
  replace HMM := Lib.hid HMM
  go_enter Tryz.func5, Tryz.ntmps5
  go_wp2_with fail
  refine (HOF.out _ HW.out).mono ?_
  rintro e1 w1 ⟨csx, rfl, hx1, hW1⟩
  have H1 := Lib.hid (And.intro (below_next HW.out hW1) (HB.out.below' hW1))
  have HX1 := Lib.hid hx1
  clear hW1 hx1 HOF HW HB
  go_wp2_with fail
  refine (HRE.out csx _ H1.out.1 HX1.out).mono ?_
  rintro e2 w2 ⟨hW2, hh⟩
  have H2 := Lib.hid (And.intro (below_next H1.out.1 hW2) (H1.out.2.below' hW2))
  clear hW2 HRE H1 HX1
  rcases hh with ⟨hrb, rfl⟩ | ⟨hrb, BC, BI, BG, BR, dC, dI, dG, dR, rfl, hrows, _⟩
  · clear hrb hno
    go_wp2_with fail
    obtain ⟨bX, hbX⟩ : ∃ b, w2.heap.size = b := ⟨_, rfl⟩
    have HE0 : Hid (Below w.heap.size w (w2.alloc (.cells #[.int .i64 0, .slice none 0 0, .slice none 0 0, .slice none 0 0, .slice none 0 0] 65)) ∧ Blk (w2.alloc (.cells #[.int .i64 0, .slice none 0 0, .slice none 0 0, .slice none 0 0, .slice none 0 0] 65)) w.heap.size 42 [.int .i64 z.N, .slice AC z.C.length cC, .slice AI z.Ids.length cI, .slice AG z.G.length cG, .slice AR z.R.length cR, .bool z.bad] ∧ Blk (w2.alloc (.cells #[.int .i64 0, .slice none 0 0, .slice none 0 0, .slice none 0 0, .slice none 0 0] 65)) bX 65 [.int .i64 0, .slice none 0 0, .slice none 0 0, .slice none 0 0, .slice none 0 0] ∧ Below w2.heap.size w2 (w2.alloc (.cells #[.int .i64 0, .slice none 0 0, .slice none 0 0, .slice none 0 0, .slice none 0 0] 65))) := ⟨below_new H2.out.1 _, H2.out.2.alloc _, by rw [← hbX]; exact Blk.new _ _ _, below_new (Below.refl _ _) _⟩
    try rw [hbX]
    obtain ⟨wx, hwx⟩ : ∃ W, w2.alloc (.cells #[.int .i64 0, .slice none 0 0, .slice none 0 0, .slice none 0 0, .slice none 0 0] 65) = W := ⟨_, rfl⟩
    rw [hwx] at HE0 ⊢
    clear hwx hbX
    refine (HBI.out _ HE0.out.1).mono ?_
    rintro e3 w3 ⟨B3, c3, rfl, hc3, hr3, hW3⟩
    have HB3 := Lib.hid hr3
    have H3 := Lib.hid (And.intro (below_next HE0.out.1 hW3) (below_next (Below.refl wx.heap.size wx) hW3))
    clear hr3 hW3 hc3
    go_wp2_with fail
    refine (HEX.out B3 c3 _ H3.out.1 HB3.out).mono ?_
    rintro e4 w4 ⟨B4, k4, c4, rfl, hk4, hW4, hE4⟩
    have H4 := Lib.hid (And.intro (below_next H3.out.1 hW4) (below_next H3.out.2 hW4))
    obtain ⟨z0, z1, z2, z3, z4, z5⟩ := six (HE0.out.2.1.below' H4.out.2)
    have HE4 := Lib.hid hE4
    clear hW4 hE4 hk4
    go_wp2_with fail
    refine (HMM.out _ H4.out.1).mono ?_
    rintro e5 w5 ⟨rfl, hW5⟩
    have H5 := Lib.hid (And.intro (below_next H4.out.1 hW5) (below_next H4.out.2 hW5))
    have H45 := Lib.hid hW5
    clear hW5 z0 z1 z2 z3 z4 z5
    go_wp2_with fail
    refine (HAW.out _).mono ?_
    rintro e6 w6 ⟨rfl, hW6⟩
    have H6 := Lib.hid (below_next H5.out.1 hW6)
    clear hW6
    go_wp2
    go_ret
    exact ⟨rfl, H6.out⟩
  · have hN := realB_n hrb
    have hN1 := hN.1
    have hN2 := hN.2
    simp only [realCs]
    obtain ⟨f, hf⟩ : ∃ f, a.all fin = f := ⟨_, rfl⟩
    rw [hf] at HEX hno
    cases f
    · clear hrb hno hrows hN hf
      go_wp2_with fail
      obtain ⟨bX, hbX⟩ : ∃ b, w2.heap.size = b := ⟨_, rfl⟩
      have HE0 : Hid (Below w.heap.size w (w2.alloc (.cells #[.int .i64 z.N, .slice BC z.C.length dC, .slice BI z.Ids.length dI, .slice BG z.G.length dG, .slice BR z.R.length dR] 65)) ∧ Blk (w2.alloc (.cells #[.int .i64 z.N, .slice BC z.C.length dC, .slice BI z.Ids.length dI, .slice BG z.G.length dG, .slice BR z.R.length dR] 65)) w.heap.size 42 [.int .i64 z.N, .slice AC z.C.length cC, .slice AI z.Ids.length cI, .slice AG z.G.length cG, .slice AR z.R.length cR, .bool z.bad] ∧ Blk (w2.alloc (.cells #[.int .i64 z.N, .slice BC z.C.length dC, .slice BI z.Ids.length dI, .slice BG z.G.length dG, .slice BR z.R.length dR] 65)) bX 65 [.int .i64 z.N, .slice BC z.C.length dC, .slice BI z.Ids.length dI, .slice BG z.G.length dG, .slice BR z.R.length dR] ∧ Below w2.heap.size w2 (w2.alloc (.cells #[.int .i64 z.N, .slice BC z.C.length dC, .slice BI z.Ids.length dI, .slice BG z.G.length dG, .slice BR z.R.length dR] 65))) := ⟨below_new H2.out.1 _, H2.out.2.alloc _, by rw [← hbX]; exact Blk.new _ _ _, below_new (Below.refl _ _) _⟩
      try rw [hbX]
      obtain ⟨wx, hwx⟩ : ∃ W, w2.alloc (.cells #[.int .i64 z.N, .slice BC z.C.length dC, .slice BI z.Ids.length dI, .slice BG z.G.length dG, .slice BR z.R.length dR] 65) = W := ⟨_, rfl⟩
      rw [hwx] at HE0 ⊢
      clear hwx hbX
      refine (HBI.out _ HE0.out.1).mono ?_
      rintro e3 w3 ⟨B3, c3, rfl, hc3, hr3, hW3⟩
      have HB3 := Lib.hid hr3
      have H3 := Lib.hid (And.intro (below_next HE0.out.1 hW3) (below_next (Below.refl wx.heap.size wx) hW3))
      clear hr3 hW3 hc3
      go_wp2_with fail
      refine (HEX.out B3 c3 _ H3.out.1 HB3.out).mono ?_
      rintro e4 w4 ⟨B4, k4, c4, rfl, hk4, hW4, hE4⟩
      have H4 := Lib.hid (And.intro (below_next H3.out.1 hW4) (below_next H3.out.2 hW4))
      obtain ⟨z0, z1, z2, z3, z4, z5⟩ := six (HE0.out.2.1.below' H4.out.2)
      have HE4 := Lib.hid hE4
      clear hW4 hE4 hk4
      go_wp2_with fail
      refine (HMM.out _ H4.out.1).mono ?_
      rintro e5 w5 ⟨rfl, hW5⟩
      have H5 := Lib.hid (And.intro (below_next H4.out.1 hW5) (below_next H4.out.2 hW5))
      have H45 := Lib.hid hW5
      clear hW5 z0 z1 z2 z3 z4 z5
      go_wp2_with fail
      refine (HAW.out _).mono ?_
      rintro e6 w6 ⟨rfl, hW6⟩
      have H6 := Lib.hid (below_next H5.out.1 hW6)
      clear hW6
      go_wp2
      go_ret
      exact ⟨rfl, H6.out⟩
    · have hln : (a.length : Int) ≠ z.N + 1 := by
        rcases hno with h | h | h
        · rw [hrb] at h; cases h
        · cases h
        · exact h
      have e1 : ((a.length : Int) != z.N + 1) = true := by simpa using hln
      clear hrb hno hrows hN hf hln
      go_wp2_with fail
      obtain ⟨bX, hbX⟩ : ∃ b, w2.heap.size = b := ⟨_, rfl⟩
      have HE0 : Hid (Below w.heap.size w (w2.alloc (.cells #[.int .i64 z.N, .slice BC z.C.length dC, .slice BI z.Ids.length dI, .slice BG z.G.length dG, .slice BR z.R.length dR] 65)) ∧ Blk (w2.alloc (.cells #[.int .i64 z.N, .slice BC z.C.length dC, .slice BI z.Ids.length dI, .slice BG z.G.length dG, .slice BR z.R.length dR] 65)) w.heap.size 42 [.int .i64 z.N, .slice AC z.C.length cC, .slice AI z.Ids.length cI, .slice AG z.G.length cG, .slice AR z.R.length cR, .bool z.bad] ∧ Blk (w2.alloc (.cells #[.int .i64 z.N, .slice BC z.C.length dC, .slice BI z.Ids.length dI, .slice BG z.G.length dG, .slice BR z.R.length dR] 65)) bX 65 [.int .i64 z.N, .slice BC z.C.length dC, .slice BI z.Ids.length dI, .slice BG z.G.length dG, .slice BR z.R.length dR] ∧ Below w2.heap.size w2 (w2.alloc (.cells #[.int .i64 z.N, .slice BC z.C.length dC, .slice BI z.Ids.length dI, .slice BG z.G.length dG, .slice BR z.R.length dR] 65))) := ⟨below_new H2.out.1 _, H2.out.2.alloc _, by rw [← hbX]; exact Blk.new _ _ _, below_new (Below.refl _ _) _⟩
      try rw [hbX]
      obtain ⟨wx, hwx⟩ : ∃ W, w2.alloc (.cells #[.int .i64 z.N, .slice BC z.C.length dC, .slice BI z.Ids.length dI, .slice BG z.G.length dG, .slice BR z.R.length dR] 65) = W := ⟨_, rfl⟩
      rw [hwx] at HE0 ⊢
      clear hwx hbX
      refine (HBI.out _ HE0.out.1).mono ?_
      rintro e3 w3 ⟨B3, c3, rfl, hc3, hr3, hW3⟩
      have HB3 := Lib.hid hr3
      have H3 := Lib.hid (And.intro (below_next HE0.out.1 hW3) (below_next (Below.refl wx.heap.size wx) hW3))
      clear hr3 hW3 hc3
      go_wp2_with fail
      refine (HEX.out B3 c3 _ H3.out.1 HB3.out).mono ?_
      rintro e4 w4 ⟨B4, k4, c4, rfl, hk4, hW4, hE4⟩
      have H4 := Lib.hid (And.intro (below_next H3.out.1 hW4) (below_next H3.out.2 hW4))
      obtain ⟨z0, z1, z2, z3, z4, z5⟩ := six (HE0.out.2.1.below' H4.out.2)
      have HE4 := Lib.hid hE4
      clear hW4 hE4 hk4
      go_wp2_with fail
      refine (HMM.out _ H4.out.1).mono ?_
      rintro e5 w5 ⟨rfl, hW5⟩
      have H5 := Lib.hid (And.intro (below_next H4.out.1 hW5) (below_next H4.out.2 hW5))
      have H45 := Lib.hid hW5
      clear hW5 z0 z1 z2 z3 z4 z5
      have y0 : w5.cell? ⟨w.heap.size, 0, none⟩ = some (.int .i64 z.N) := (HE0.out.2.1.below' H5.out.2).cell 0
      go_wp2_with fail
      refine (HAW.out _).mono ?_
      rintro e6 w6 ⟨rfl, hW6⟩
      have H6 := Lib.hid (below_next H5.out.1 hW6)
      clear hW6
      go_wp2
      go_ret
      exact ⟨rfl, H6.out⟩
set_option maxHeartbeats 8000000 in
set_option maxRecDepth 100000 in
theorem holds_early (z : Zn) (cs : List Value) (A AE AS : Option Addr) (a : List Nat) (e s : List Int) (c ce cs' base : Nat) (depth : Int) (w : World) (h : zRd.R w base z cs) (ha : f64.Row 47 w base A a) (he : i64.Row 3 w base AE e) (hs : i64.Row 3 w base AS s) (hal : a.length ≤ 1099511627776) (hel : e.length ≤ 17592186044416) (hsl : s.length ≤ 17592186044416) (hbase : base ≤ w.heap.size) (hf : fitsB z a = true) (hno : marginS z a = none ∨ depth < 0 ∨ 30 < depth) :
    Calls Tryz.prog 5 #[.agg cs.toArray, .slice A a.length c, .slice AE e.length ce, .slice AS s.length cs', .int .i64 depth] w fun e w' => e = .returned (.bool true) ∧ Below w.heap.size w w' := by
  have HZ := Lib.hid (fun W (hW : Below w.heap.size w W) => zRd.below h hW)
  have HFR := Lib.hid (fun W (hW : Below w.heap.size w W) => (show f64.Row 47 W base A a from ha.below hW))
  obtain ⟨AC, AI, AG, AR, cC, cI, cG, cR, rfl, hr, hl⟩ := h
  have hgl := hl.g.2
  have hil := hl.i.2
  have HOF := Lib.hid (fun W (hW : Below w.heap.size w W) => of10_calls z _ W base w.heap.size (HZ.out W hW) hW.size)
  have HRE := Lib.hid (fun csx W (hW : Below w.heap.size w W) (hx : rzRd.R W w.heap.size z csx) => reals_calls z csx W w.heap.size w.heap.size hx hW.size)
  have HBI := Lib.hid (fun W (hW : Below w.heap.size w W) => bits10_calls A a a.length c 47 base w.heap.size W rfl (HFR.out W hW) (Nat.le_trans hal (by decide)) hW.size)
  have HEX := Lib.hid (fun B dc W (hW : Below w.heap.size w W) (hr : uqRow W w.heap.size B a) => exact_calls B a a.length dc 50 w.heap.size w.heap.size W rfl hr hal hW.size)
  have HMM := fun W (hW : Below w.heap.size w W) => mmargin_calls z _ A a a.length c W base (HZ.out W hW) rfl (HFR.out W hW) (Nat.le_trans hal (by decide))
  obtain ⟨o, ho⟩ : ∃ o, marginS z a = o := ⟨_, rfl⟩
  rw [ho] at HMM
  unfold fRet at HMM
  have HO := Lib.hid ho
  have HW := Lib.hid (below_new (Below.refl w.heap.size w) (.cells #[.int .i64 z.N, .slice AC z.C.length cC, .slice AI z.Ids.length cI, .slice AG z.G.length cG, .slice AR z.R.length cR, .bool z.bad] 42))
  have HB := Lib.hid (Blk.new w #[.int .i64 z.N, .slice AC z.C.length cC, .slice AI z.Ids.length cI, .slice AG z.G.length cG, .slice AR z.R.length cR, .bool z.bad] 42)
  have HAW := Lib.hid (fun W => awake_calls W)
  clear ho hr hl ha
  rw [HO.out] at hno
  have hfit := hf
  rw [fits_real] at hf
  simp only [Bool.and_eq_true, decide_eq_true_eq] at hf
  obtain ⟨⟨hrbt, haf⟩, hln⟩ := hf
  obtain ⟨mv, hmv⟩ : ∃ m, o.getD 0 = m := ⟨_, rfl⟩
  obtain ⟨bb, hbb⟩ : ∃ b, o.isSome = b := ⟨_, rfl⟩
  rw [hmv, hbb] at HMM
  have hno2 : bb = false ∨ depth < 0 ∨ 30 < depth := by
    rcases hno with h | h | h
    · left; rw [← hbb, h]; rfl
    · exact .inr (.inl h)
    · exact .inr (.inr h)
  replace HMM := Lib.hid HMM
  rw [haf] at HEX
  have HRB := Lib.hid hrbt
  clear hmv hbb hno hrbt haf hfit
  go_enter Tryz.func5, Tryz.ntmps5
  go_wp2_with fail
  refine (HOF.out _ HW.out).mono ?_
  rintro e1 w1 ⟨csx, rfl, hx1, hW1⟩
  have H1 := Lib.hid (And.intro (below_next HW.out hW1) (HB.out.below' hW1))
  have HX1 := Lib.hid hx1
  clear hW1 hx1 HOF HW HB
  go_wp2_with fail
  refine (HRE.out csx _ H1.out.1 HX1.out).mono ?_
  rintro e2 w2 ⟨hW2, hh⟩
  have H2 := Lib.hid (And.intro (below_next H1.out.1 hW2) (H1.out.2.below' hW2))
  clear hW2 HRE H1 HX1
  rcases hh with ⟨hrb, rfl⟩ | ⟨hrb, BC, BI, BG, BR, dC, dI, dG, dR, rfl, hrows, _⟩
  · rw [HRB.out] at hrb; cases hrb
  · have hN := realB_n hrb
    have hN1 := hN.1
    have hN2 := hN.2
    simp only [realCs]
    have e1 : ((a.length : Int) != z.N + 1) = false := by simpa using hln
    clear hrb hrows hN hln
    go_wp2_with fail
    obtain ⟨bX, hbX⟩ : ∃ b, w2.heap.size = b := ⟨_, rfl⟩
    have HE0 : Hid (Below w.heap.size w (w2.alloc (.cells #[.int .i64 z.N, .slice BC z.C.length dC, .slice BI z.Ids.length dI, .slice BG z.G.length dG, .slice BR z.R.length dR] 65)) ∧ Blk (w2.alloc (.cells #[.int .i64 z.N, .slice BC z.C.length dC, .slice BI z.Ids.length dI, .slice BG z.G.length dG, .slice BR z.R.length dR] 65)) w.heap.size 42 [.int .i64 z.N, .slice AC z.C.length cC, .slice AI z.Ids.length cI, .slice AG z.G.length cG, .slice AR z.R.length cR, .bool z.bad] ∧ Blk (w2.alloc (.cells #[.int .i64 z.N, .slice BC z.C.length dC, .slice BI z.Ids.length dI, .slice BG z.G.length dG, .slice BR z.R.length dR] 65)) bX 65 [.int .i64 z.N, .slice BC z.C.length dC, .slice BI z.Ids.length dI, .slice BG z.G.length dG, .slice BR z.R.length dR] ∧ Below w2.heap.size w2 (w2.alloc (.cells #[.int .i64 z.N, .slice BC z.C.length dC, .slice BI z.Ids.length dI, .slice BG z.G.length dG, .slice BR z.R.length dR] 65))) := ⟨below_new H2.out.1 _, H2.out.2.alloc _, by rw [← hbX]; exact Blk.new _ _ _, below_new (Below.refl _ _) _⟩
    try rw [hbX]
    obtain ⟨wx, hwx⟩ : ∃ W, w2.alloc (.cells #[.int .i64 z.N, .slice BC z.C.length dC, .slice BI z.Ids.length dI, .slice BG z.G.length dG, .slice BR z.R.length dR] 65) = W := ⟨_, rfl⟩
    rw [hwx] at HE0 ⊢
    clear hwx hbX
    refine (HBI.out _ HE0.out.1).mono ?_
    rintro e3 w3 ⟨B3, c3, rfl, hc3, hr3, hW3⟩
    have HB3 := Lib.hid hr3
    have H3 := Lib.hid (And.intro (below_next HE0.out.1 hW3) (below_next (Below.refl wx.heap.size wx) hW3))
    clear hr3 hW3 hc3
    go_wp2_with fail
    refine (HEX.out B3 c3 _ H3.out.1 HB3.out).mono ?_
    rintro e4 w4 ⟨B4, k4, c4, rfl, hk4, hW4, hE4⟩
    have H4 := Lib.hid (And.intro (below_next H3.out.1 hW4) (below_next H3.out.2 hW4))
    obtain ⟨z0, z1, z2, z3, z4, z5⟩ := six (HE0.out.2.1.below' H4.out.2)
    have HE4 := Lib.hid hE4
    clear hW4 hE4 hk4
    go_wp2_with fail
    refine (HMM.out _ H4.out.1).mono ?_
    rintro e5 w5 ⟨rfl, hW5⟩
    have H5 := Lib.hid (And.intro (below_next H4.out.1 hW5) (below_next H4.out.2 hW5))
    have H45 := Lib.hid hW5
    clear hW5 z0 z1 z2 z3 z4 z5
    have y0 : w5.cell? ⟨w.heap.size, 0, none⟩ = some (.int .i64 z.N) := (HE0.out.2.1.below' H5.out.2).cell 0
    cases bb
    · clear hno2
      go_wp2_with fail
      refine (HAW.out _).mono ?_
      rintro e6 w6 ⟨rfl, hW6⟩
      have H6 := Lib.hid (below_next H5.out.1 hW6)
      clear hW6
      go_wp2
      go_ret
      exact ⟨rfl, H6.out⟩
    · by_cases hd1 : depth < 0
      · clear hno2
        go_wp2_with fail
        refine (HAW.out _).mono ?_
        rintro e6 w6 ⟨rfl, hW6⟩
        have H6 := Lib.hid (below_next H5.out.1 hW6)
        clear hW6
        go_wp2
        go_ret
        exact ⟨rfl, H6.out⟩
      · have hd2 : 30 < depth := by
          rcases hno2 with h | h | h
          · cases h
          · exact absurd h hd1
          · exact h
        clear hno2
        go_wp2_with fail
        refine (HAW.out _).mono ?_
        rintro e6 w6 ⟨rfl, hW6⟩
        have H6 := Lib.hid (below_next H5.out.1 hW6)
        clear hW6
        go_wp2
        go_ret
        exact ⟨rfl, H6.out⟩
end Go.Proofs.YtcfejobdgiiihaaGreatDoor

namespace Go.Proofs.YtcfejobdgiiihaaGreatDoor
open Go.RowKit
attribute [local go_sem ↓] Go.wp_at_zero Go.wp_at_succ

/-! ### the law MarginHolds: the sum at a point -/
/-- what the loops hold: the sum so far; the coordinate so far -/
structure HSt (w5 wr : World) (base bv K : Nat) (V : Int) : Prop where
  W : Below w5.heap.size w5 wr
  V : NumB K base wr bv V
  b : w5.heap.size ≤ bv
structure HIn (w5 wr : World) (base bv bc K Kc : Nat) (V C : Int) : Prop where
  W : Below w5.heap.size w5 wr
  V : NumB K base wr bv V
  C : NumB Kc base wr bc C
  b : w5.heap.size ≤ bv
  bc : bv < bc
theorem HSt.next {w5 wr wy : World} {base bv K : Nat} {V : Int} (h : HSt w5 wr base bv K V) (hb : Below wr.heap.size wr wy) : HSt w5 wy base bv K V := ⟨below_next h.W hb, h.V.next hb, h.b⟩
theorem HIn.next {w5 wr wy : World} {base bv bc K Kc : Nat} {V C : Int} (h : HIn w5 wr base bv bc K Kc V C) (hb : Below wr.heap.size wr wy) : HIn w5 wy base bv bc K Kc V C := ⟨below_next h.W hb, h.V.next hb, h.C.next hb, h.b, h.bc⟩
theorem HIn.updC {w5 wr : World} {base bv bc K Kc : Nat} {V C C' : Int} {neg : Bool} {A : Option Addr} {n c : Nat} {e : Int} (h : HIn w5 wr base bv bc K Kc V C) (hbase : base ≤ w5.heap.size) (hr : (numRd Kc).R wr base C' [.bool neg, .slice A n c, .int .i64 e]) :
    HIn w5 (W3 wr bc (.bool neg) (.slice A n c) (.int .i64 e)) base bv bc K Kc V C' := by
  obtain ⟨_, _, _, _, _, hb, _⟩ := h.C
  have h1 := h.b; have h2 := h.bc
  exact ⟨below3 h.W (by omega) _ _ _, numB_far h.V hb (by omega) (by omega), numB_set hb hr (by omega), h1, h2⟩
theorem HIn.updV {w5 wr : World} {base bv bc K Kc : Nat} {V V' C : Int} {neg : Bool} {A : Option Addr} {n c : Nat} {e : Int} (h : HIn w5 wr base bv bc K Kc V C) (hbase : base ≤ w5.heap.size) (hr : (numRd K).R wr base V' [.bool neg, .slice A n c, .int .i64 e]) :
    HSt w5 (W3 wr bv (.bool neg) (.slice A n c) (.int .i64 e)) base bv K V' := by
  obtain ⟨_, _, _, _, _, hb, _⟩ := h.V
  have h1 := h.b
  exact ⟨below3 h.W (by omega) _ _ _, numB_set hb hr (by omega), h1⟩
theorem hin_new {w5 w4 : World} {base bv K Kc : Nat} {V C : Int} {neg : Bool} {A : Option Addr} {n c : Nat} {e : Int} (h : HSt w5 w4 base bv K V) (hr : (numRd Kc).R w4 base C [.bool neg, .slice A n c, .int .i64 e]) :
    HIn w5 (w4.alloc (.cells #[.bool neg, .slice A n c, .int .i64 e] 72)) base bv w4.heap.size K Kc V C :=
  ⟨below_next h.W (below_new (Below.refl _ _) _), h.V.next (below_new (Below.refl _ _) _), numB_new hr, h.b, h.V.lt⟩
theorem hin_set {w5 w4 : World} {base bv bc K Kc : Nat} {V C : Int} {z0 z1 z2 : Value} {neg : Bool} {A : Option Addr} {n c : Nat} {e : Int} (h : HSt w5 w4 base bv K V) (hz : Blk w4 bc 72 [z0, z1, z2]) (hb : bv < bc) (hbase : base ≤ w5.heap.size) (hr : (numRd Kc).R w4 base C [.bool neg, .slice A n c, .int .i64 e]) :
    HIn w5 (W3 w4 bc (.bool neg) (.slice A n c) (.int .i64 e)) base bv bc K Kc V C := by
  have h1 := h.b
  exact ⟨below3 h.W (by omega) _ _ _, numB_far h.V hz (by omega) (by omega), numB_set hz hr (by omega), h1, hb⟩
theorem keep8 {w W : World} {q1 q2 q3 q4 q5 q6 q7 q8 : Addr} {u1 u2 u3 u4 u5 u6 u7 u8 : Value} (h1 : w.cell? q1 = some u1) (h2 : w.cell? q2 = some u2) (h3 : w.cell? q3 = some u3) (h4 : w.cell? q4 = some u4) (h5 : w.cell? q5 = some u5) (h6 : w.cell? q6 = some u6) (h7 : w.cell? q7 = some u7) (h8 : w.cell? q8 = some u8) (hW : Below w.heap.size w W) :
    W.cell? q1 = some u1 ∧ W.cell? q2 = some u2 ∧ W.cell? q3 = some u3 ∧ W.cell? q4 = some u4 ∧ W.cell? q5 = some u5 ∧ W.cell? q6 = some u6 ∧ W.cell? q7 = some u7 ∧ W.cell? q8 = some u8 :=
  ⟨cell_kept hW h1, cell_kept hW h2, cell_kept hW h3, cell_kept hW h4, cell_kept hW h5, cell_kept hW h6, cell_kept hW h7, cell_kept hW h8⟩
set_option exponentiation.threshold 6000 in
theorem fmax_pos : 0 < fMax := by unfold fMax; exact Nat.mul_pos (by decide) (Nat.pow_pos (by decide))
theorem times_c (d base : Nat) (X Y : Int) (cx cy : List Value) (w : World) (hbase : base ≤ w.heap.size) (hx : (numRd d).R w base X cx) (hy : (numRd 1074).R w base Y cy) (hX : X.natAbs < 2 ^ CapL) (hY : Y.natAbs < 2 ^ CapL) (hd : d ≤ 1000000) :
    Calls Tryz.prog 27 #[.agg cx.toArray, .agg cy.toArray] w fun r w' => ∃ neg A n c e, r = .returned (.agg #[.bool neg, .slice A n c, .int .i64 e]) ∧ (numRd (1074 + d)).R w' base (X * Y) [.bool neg, .slice A n c, .int .i64 e] ∧ Below w.heap.size w w' := by
  have := times_o d 1074 base X Y cx cy w hbase hx hy hX hY (by omega) (by decide)
  rw [Nat.add_comm d 1074] at this
  exact this
theorem zone_row {C : List Nat} (h : C.all fin = true) {i : Nat} (hi : i < C.length) : fin (C.getD i 0) = true := all_getD h hi
set_option exponentiation.threshold 6000 in
set_option maxHeartbeats 16000000 in
set_option maxRecDepth 100000 in
theorem holds_main (z : Zn) (cs : List Value) (A AE AS : Option Addr) (a : List Nat) (e s : List Int) (c ce cs' base : Nat) (d : Nat) (w : World) (h : zRd.R w base z cs) (ha : f64.Row 47 w base A a) (he : i64.Row 3 w base AE e) (hs : i64.Row 3 w base AS s) (hal : a.length ≤ 1099511627776) (hel : e.length ≤ 17592186044416) (hsl : s.length ≤ 17592186044416) (hbase : base ≤ w.heap.size) (n m : Nat) (F : FitsF z a n) (hfit : fitsB z a = true) (hsm : marginS z a = some m) (hd : d ≤ 30) :
    Calls Tryz.prog 5 #[.agg cs.toArray, .slice A a.length c, .slice AE e.length ce, .slice AS s.length cs', .int .i64 (d : Int)] w fun e w' => e = .returned (.bool true) ∧ Below w.heap.size w w' := by
  have HZ := Lib.hid (fun W (hW : Below w.heap.size w W) => zRd.below h hW)
  have HFR := Lib.hid (fun W (hW : Below w.heap.size w W) => (show f64.Row 47 W base A a from ha.below hW))
  obtain ⟨AC, AI, AG, AR, cC, cI, cG, cR, rfl, hr, hl⟩ := h
  have hgl := hl.g.2
  have hil := hl.i.2
  have HOF := Lib.hid (fun W (hW : Below w.heap.size w W) => of10_calls z _ W base w.heap.size (HZ.out W hW) hW.size)
  have HRE := Lib.hid (fun csx W (hW : Below w.heap.size w W) (hx : rzRd.R W w.heap.size z csx) => reals_calls z csx W w.heap.size w.heap.size hx hW.size)
  have HBI := Lib.hid (fun W (hW : Below w.heap.size w W) => bits10_calls A a a.length c 47 base w.heap.size W rfl (HFR.out W hW) (Nat.le_trans hal (by decide)) hW.size)
  have HEX := Lib.hid (fun B dc W (hW : Below w.heap.size w W) (hr : uqRow W w.heap.size B a) => exact_calls B a a.length dc 50 w.heap.size w.heap.size W rfl hr hal hW.size)
  have HMM := fun W (hW : Below w.heap.size w W) => mmargin_calls z _ A a a.length c W base (HZ.out W hW) rfl (HFR.out W hW) (Nat.le_trans hal (by decide))
  obtain ⟨o, ho⟩ : ∃ o, marginS z a = o := ⟨_, rfl⟩
  rw [ho] at HMM
  unfold fRet at HMM
  have HO := Lib.hid ho
  have HW := Lib.hid (below_new (Below.refl w.heap.size w) (.cells #[.int .i64 z.N, .slice AC z.C.length cC, .slice AI z.Ids.length cI, .slice AG z.G.length cG, .slice AR z.R.length cR, .bool z.bad] 42))
  have HB := Lib.hid (Blk.new w #[.int .i64 z.N, .slice AC z.C.length cC, .slice AI z.Ids.length cI, .slice AG z.G.length cG, .slice AR z.R.length cR, .bool z.bad] 42)
  have HAW := Lib.hid (fun W => awake_calls W)
  clear ho hr hl ha
  rw [hsm] at HO
  obtain rfl : some m = o := HO.out
  simp only [Option.getD_some, Option.isSome_some] at HMM
  rw [fits_real] at hfit
  simp only [Bool.and_eq_true, decide_eq_true_eq] at hfit
  obtain ⟨⟨hrbt, haf⟩, hln⟩ := hfit
  replace HMM := Lib.hid HMM
  rw [haf] at HEX
  have HRB := Lib.hid hrbt
  have hmf := marginS_fin hsm
  have HML := Lib.hid (margin_le hsm)
  have hdi : ¬ (d : Int) < 0 := by omega
  have hdj : ¬ (30 : Int) < (d : Int) := by omega
  have HCAP := Lib.hid (fun i (hi : i ≤ n) => hold_cap (d := d) (K := z.G.length) (n := i) (N := n) hd (Nat.le_trans hgl (by decide)) hi F.n2)
  have HPB := Lib.hid (fun (l : List Int) => (fun k => (by have := partS_bd l k d; omega) : ∀ k, (partS l k d).natAbs ≤ 2 ^ d))
  have HFa := Lib.hid (fun i (hi : i ≤ n) => all_getD F.af (show i < a.length by have := F.al; omega))
  have HFc := Lib.hid (fun i (hi : i < n) => all_getD F.cf (show i < z.C.length by have := F.cl; omega))
  have HFr := Lib.hid (fun i (hi : i < n) => all_getD F.rf (show i < z.R.length by have := F.rl; omega))
  have HFg := Lib.hid (fun i j (hi : i < n) (hj : j < z.G.length) => all_getD (F.gs j hj).1 (show i < (z.G.getD j []).length by rw [(F.gs j hj).2]; exact hi))
  have HGE := Lib.hid (holdV_ge (z := z) (a := a) (P := fun i => partS s i d) (Q := fun k => partS e k d) (d := d) (fun k => partS_bd s k d) (fun k => partS_bd e k d) (fun i hi => F.rp i (by have := F.N; omega)))
  obtain ⟨P, hP⟩ : ∃ P : Nat → Int, (fun i => partS s i d) = P := ⟨_, rfl⟩
  obtain ⟨Q, hQ⟩ : ∃ Q : Nat → Int, (fun i => partS e i d) = Q := ⟨_, rfl⟩
  have HPs := Lib.hid (fun i => show partS s i d = P i from congrFun hP i)
  have HQs := Lib.hid (fun i => show partS e i d = Q i from congrFun hQ i)
  rw [hP, hQ] at HGE
  have HPd : Hid (∀ k, (P k).natAbs ≤ 2 ^ d) := fun k => by rw [← HPs.out]; exact HPB.out s k
  have HQd : Hid (∀ k, (Q k).natAbs ≤ 2 ^ d) := fun k => by rw [← HQs.out]; exact HPB.out e k
  have HIG : Hid (z.Ids.length = z.G.length) := F.ig
  have hNn := F.N
  have hn1 := F.n1
  have hn2 := F.n2
  have hal1 : a.length ≤ n + 1 := by have := F.al; omega
  have hal2 : n + 1 ≤ a.length := by have := F.al; omega
  have hcl1 : n ≤ z.C.length := by have := F.cl; omega
  have hrl1 : n ≤ z.R.length := by have := F.rl; omega
  have HGLn := Lib.hid (fun j (hj : j < z.G.length) => (F.gs j hj).2)
  have HSR := Lib.hid (fun W (hW : Below w.heap.size w W) => (show i64.Row 3 W base AS s from hs.below hW))
  have HER := Lib.hid (fun W (hW : Below w.heap.size w W) => (show i64.Row 3 W base AE e from he.below hW))
  have HPS := Lib.hid (fun i W (hW : Below w.heap.size w W) (hi : i ≤ 17592186044416) => part_calls AS s s.length cs' i d 3 base w.heap.size W rfl (HSR.out W hW) hsl hi hd hW.size)
  have HPE := Lib.hid (fun i W (hW : Below w.heap.size w W) (hi : i ≤ 17592186044416) => part_calls AE e e.length ce i d 3 base w.heap.size W rfl (HER.out W hW) hel hi hd hW.size)
  rw [hNn, Int.toNat_natCast] at HGE
  have HNn := Lib.hid hNn
  have hN1 : 1 ≤ z.N := by omega
  have hN2 : z.N ≤ 256 := by omega
  clear hrbt haf hsm F hP hQ HPB hs he hNn
  go_enter Tryz.func5, Tryz.ntmps5
  go_wp2_with fail
  refine (HOF.out _ HW.out).mono ?_
  rintro e1 w1 ⟨csx, rfl, hx1, hW1⟩
  have H1 := Lib.hid (And.intro (below_next HW.out hW1) (HB.out.below' hW1))
  have HX1 := Lib.hid hx1
  clear hW1 hx1 HOF HW HB
  go_wp2_with fail
  refine (HRE.out csx _ H1.out.1 HX1.out).mono ?_
  rintro e2 w2 ⟨hW2, hh⟩
  have H2 := Lib.hid (And.intro (below_next H1.out.1 hW2) (H1.out.2.below' hW2))
  clear hW2 HRE H1 HX1
  rcases hh with ⟨hrb, rfl⟩ | ⟨hrb, BC, BI, BG, BR, dC, dI, dG, dR, rfl, hrows, _⟩
  · rw [HRB.out] at hrb; cases hrb
  · have HRW := Lib.hid hrows
    simp only [realCs]
    have e1 : ((a.length : Int) != z.N + 1) = false := by simpa using hln
    clear hrb hrows hln
    go_wp2_with fail
    obtain ⟨bX, hbX⟩ : ∃ b, w2.heap.size = b := ⟨_, rfl⟩
    have HE0 : Hid (Below w.heap.size w (w2.alloc (.cells #[.int .i64 z.N, .slice BC z.C.length dC, .slice BI z.Ids.length dI, .slice BG z.G.length dG, .slice BR z.R.length dR] 65)) ∧ Blk (w2.alloc (.cells #[.int .i64 z.N, .slice BC z.C.length dC, .slice BI z.Ids.length dI, .slice BG z.G.length dG, .slice BR z.R.length dR] 65)) w.heap.size 42 [.int .i64 z.N, .slice AC z.C.length cC, .slice AI z.Ids.length cI, .slice AG z.G.length cG, .slice AR z.R.length cR, .bool z.bad] ∧ Blk (w2.alloc (.cells #[.int .i64 z.N, .slice BC z.C.length dC, .slice BI z.Ids.length dI, .slice BG z.G.length dG, .slice BR z.R.length dR] 65)) bX 65 [.int .i64 z.N, .slice BC z.C.length dC, .slice BI z.Ids.length dI, .slice BG z.G.length dG, .slice BR z.R.length dR] ∧ Below w2.heap.size w2 (w2.alloc (.cells #[.int .i64 z.N, .slice BC z.C.length dC, .slice BI z.Ids.length dI, .slice BG z.G.length dG, .slice BR z.R.length dR] 65))) := ⟨below_new H2.out.1 _, H2.out.2.alloc _, by rw [← hbX]; exact Blk.new _ _ _, below_new (Below.refl _ _) _⟩
    try rw [hbX]
    obtain ⟨wx, hwx⟩ : ∃ W, w2.alloc (.cells #[.int .i64 z.N, .slice BC z.C.length dC, .slice BI z.Ids.length dI, .slice BG z.G.length dG, .slice BR z.R.length dR] 65) = W := ⟨_, rfl⟩
    rw [hwx] at HE0 ⊢
    clear hwx hbX
    refine (HBI.out _ HE0.out.1).mono ?_
    rintro e3 w3 ⟨B3, c3, rfl, hc3, hr3, hW3⟩
    have HB3 := Lib.hid hr3
    have H3 := Lib.hid (And.intro (below_next HE0.out.1 hW3) (below_next (Below.refl wx.heap.size wx) hW3))
    clear hr3 hW3 hc3
    go_wp2_with fail
    refine (HEX.out B3 c3 _ H3.out.1 HB3.out).mono ?_
    rintro e4 w4 ⟨B4, k4, c4, rfl, hk4, hW4, hE4⟩
    have H4 := Lib.hid (And.intro (below_next H3.out.1 hW4) (below_next H3.out.2 hW4))
    obtain ⟨z0, z1, z2, z3, z4, z5⟩ := six (HE0.out.2.1.below' H4.out.2)
    have HE4 := Lib.hid hE4
    clear hW4 hE4 hk4
    go_wp2_with fail
    refine (HMM.out _ H4.out.1).mono ?_
    rintro e5 w5 ⟨rfl, hW5⟩
    have H5 := Lib.hid (And.intro (below_next H4.out.1 hW5) (below_next H4.out.2 hW5))
    have H45 := Lib.hid hW5
    clear hW5 z0 z1 z2 z3 z4 z5
    have y0 : w5.cell? ⟨w.heap.size, 0, none⟩ = some (.int .i64 z.N) := (HE0.out.2.1.below' H5.out.2).cell 0
    have HE4b := HE4.out trivial
    obtain ⟨hk4e, hrow4⟩ := HE4b
    obtain rfl : a.length = k4 := hk4e.symm
    have HXC := Lib.hid (fun W (hW : Below w5.heap.size w5 W) => (HE0.out.2.2.1.below' H5.out.2).below' hW)
    have HRB5 := Lib.hid (fun W (hW : Below w5.heap.size w5 W) => HRW.out.below (below_next HE0.out.2.2.2 (below_next H5.out.2 hW)))
    have HAR := Lib.hid (fun W (hW : Below w5.heap.size w5 W) => (show nRd.Row 72 W w.heap.size B4 (a.map fv) from hrow4.below (below_next H45.out hW)))
    have HBW := Lib.hid (fun W (hW : Below w5.heap.size w5 W) => below_next H5.out.1 hW)
    clear hk4e hrow4 HE4 HMM HEX HBI HB3
    have hx0 : w5.cell? ⟨bX, 0, none⟩ = some (.int .i64 z.N) := (HXC.out w5 (Below.refl _ _)).cell 0
    obtain ⟨pn, nn, An, ln, kn, en, hB4, rn, n0, n1, n2⟩ := nat_elem (HAR.out w5 (Below.refl _ _)) (i := n) (by rw [List.length_map]; omega)
    subst hB4
    rw [getD_map_fv (by omega)] at rn
    have hzt : z.N.toNat = n := by have := HNn.out; omega
    have hiN : z.N < (a.length : Int) := by have := HNn.out; omega
    have hiN0 : (0 : Int) ≤ z.N := by omega
    have hV0 : Hid (HSt w5 (w5.alloc (.cells #[.bool nn, .slice An ln kn, .int .i64 en] 72)) w.heap.size w5.heap.size (1074 + (1074 + d)) (holdV a z.C z.R z.G P Q n z.Ids.length d 0)) := by
      refine ⟨below_new (Below.refl _ _) _, ?_, Nat.le_refl _⟩
      exact numB_new (by rw [holdV]; exact num_raise (J := 1074 + d) rn)
    clear rn
    go_wp2
    clear n0 n1 n2 hx0 y0 e1 hdi hdj hzt
    have hbs5 : w.heap.size ≤ w5.heap.size := H5.out.1.size
    go_loopw [18, 19, 20] (fun i _ _ wr => ∃ k : Nat, k ≤ n ∧ i = .int .i64 k ∧ Hid (HSt w5 wr w.heap.size w5.heap.size (1074 + (1074 + d)) (holdV a z.C z.R z.G P Q n z.Ids.length d k))) (fun i _ _ _ => n - (intOf i).toNat)
    case atStart => exact ⟨0, by omega, rfl, hV0.out⟩
    case round =>
      obtain ⟨k, hk, rfl, hS⟩ := hrel
      have hx0 : wr.cell? ⟨bX, 0, none⟩ = some (.int .i64 z.N) := (HXC.out wr hS.out.W).cell 0
      by_cases hlt : k < n
      · have hik : (k : Int) < z.N := by have := HNn.out; omega
        go_upto_region 12 with fail
        go_cut [19] from 76 to 127 (fun s wc => ∃ bc : Nat, s = .pointer (some ⟨bc, 0, none⟩) ∧ Hid (HIn w5 wc w.heap.size w5.heap.size bc (1074 + (1074 + d)) (1074 + d) (holdV a z.C z.R z.G P Q n z.Ids.length d k) (cenV z.C z.R z.G P Q d k 0)))
        case first =>
          have c1 : wr.cell? ⟨bX, 1, none⟩ = some (.slice BC z.C.length dC) := (HXC.out wr hS.out.W).cell 1
          have c4 : wr.cell? ⟨bX, 4, none⟩ = some (.slice BR z.R.length dR) := (HXC.out wr hS.out.W).cell 4
          obtain ⟨pa, na, Aa, la, ka, ea, hBC, ra, a0, a1, a2⟩ := nat_elem (HRB5.out wr hS.out.W).C (i := k) (by rw [List.length_map]; omega)
          obtain ⟨pb, nb, Ab, lb, kb, eb, hBR, rb, b0, b1, b2⟩ := nat_elem (HRB5.out wr hS.out.W).R (i := k) (by rw [List.length_map]; omega)
          subst hBC hBR
          rw [getD_map_fv (by omega)] at ra rb
          have ra2 := num_raise (J := d) ra
          have hi1 : (k : Int) < (z.C.length : Int) := by omega
          have hi2 : (k : Int) < (z.R.length : Int) := by omega
          have hi0 : (0 : Int) ≤ (k : Int) := by omega
          have hcap := HCAP.out k (by omega)
          have hbp := HPd.out k
          have hpr := mul_le2 hbp (fv_le_max (HFr.out k hlt))
          have hc2 := mul_le2 (y := ((2 ^ d : Nat) : Int)) (fv_le_max (HFc.out k hlt)) (Nat.le_of_eq (Int.natAbs_natCast _))
          have hcp : (P k).natAbs < 2 ^ CapL := Nat.lt_of_le_of_lt (Nat.le_trans hbp (Nat.le_mul_of_pos_right _ fmax_pos)) hcap.2.2.2
          have HPA := Lib.hid (fun W (hW : Below wr.heap.size wr W) => (show NumRet d w.heap.size (P k) W = NumRet d w.heap.size (partS s k d) W from by rw [HPs.out]) ▸ HPS.out k W (HBW.out W (below_next hS.out.W hW)) (by omega))
          have HTM := Lib.hid (fun W cx (hW : Below wr.heap.size wr W) (hx : (numRd d).R W w.heap.size (P k) cx) => times_c d w.heap.size (P k) (fv (z.R.getD k 0)) cx _ W (Nat.le_trans (HBW.out wr hS.out.W).size hW.size) hx (Rd.below _ rb hW) hcp (fv_capL (HFr.out k hlt)) (by omega))
          have HPL := Lib.hid (fun W cx (hW : Below wr.heap.size wr W) (hx : (numRd (1074 + d)).R W w.heap.size (P k * fv (z.R.getD k 0)) cx) => plus_o (1074 + d) w.heap.size (fv (z.C.getD k 0) * (2 ^ d : Nat)) (P k * fv (z.R.getD k 0)) _ cx W (Nat.le_trans (HBW.out wr hS.out.W).size hW.size) (Rd.below _ ra2 hW) hx (Nat.lt_of_le_of_lt hc2 (by rw [Nat.mul_comm]; exact hcap.2.2.2)) (Nat.lt_of_le_of_lt hpr hcap.2.2.2) (by omega))
          have HE : Hid (fv (z.C.getD k 0) * ((2 ^ d : Nat) : Int) + P k * fv (z.R.getD k 0) = cenV z.C z.R z.G P Q d k 0) := by rw [Hid, cenV, ptG, Int.add_zero]
          clear ra rb ra2 hcap hbp hpr hc2 hcp
          go_region_held3 (fun W => W.cell? ⟨bX, 1, none⟩ = some (.slice (some pa) z.C.length dC) ∧ W.cell? ⟨bX, 4, none⟩ = some (.slice (some pb) z.R.length dR) ∧ W.cell? (pa.add (k * 3)) = some (.bool na) ∧ W.cell? ⟨(pa.add (k * 3)).block, (pa.add (k * 3)).off + 1, none⟩ = some (.slice Aa la ka) ∧ W.cell? ⟨(pa.add (k * 3)).block, (pa.add (k * 3)).off + 2, none⟩ = some (.int .i64 ea) ∧ W.cell? (pb.add (k * 3)) = some (.bool nb) ∧ W.cell? ⟨(pb.add (k * 3)).block, (pb.add (k * 3)).off + 1, none⟩ = some (.slice Ab lb kb) ∧ W.cell? ⟨(pb.add (k * 3)).block, (pb.add (k * 3)).off + 2, none⟩ = some (.int .i64 eb))
            (first | (refine keep8 c1 c4 a0 a1 a2 b0 b1 b2 ?_; (repeat (first | exact H9.out | exact H8.out | exact H7.out | exact Below.refl _ _ | (with_reducible apply below_drewN) | (with_reducible apply Below.drew) | (with_reducible apply below_new))); done) | (refine keep8 c1 c4 a0 a1 a2 b0 b1 b2 ?_; refine below3 ?_ (by first | exact H8.out.size | exact H7.out.size | exact Nat.le_refl _) _ _ _; (repeat (first | exact H9.out | exact Below.refl _ _ | (with_reducible apply below_drewN) | (with_reducible apply Below.drew) | (with_reducible apply below_new))); done) | ((try dsimp only); (repeat' apply And.intro) <;> go_keep))
            (first
              | (go_at_call 28; refine (HPA.out _ (by (repeat (first  | exact Below.refl _ _ | (with_reducible apply below_drewN) | (with_reducible apply Below.drew) | (with_reducible apply below_new))))).mono ?_; rintro e7 w7 ⟨m7, A7, l7, k7, x7, rfl, hr7, hW7⟩; have H7 : Hid (Below wr.heap.size wr w7) := below_next (by (repeat (first  | exact Below.refl _ _ | (with_reducible apply below_drewN) | (with_reducible apply Below.drew) | (with_reducible apply below_new)))) hW7; have HR7 := Lib.hid hr7; (first | (have HZ7 := Lib.hid (Blk.below' (blk_new' wr.drew wr.heap.size (by rfl) #[.bool false, .slice none 0 0, .int .i64 0] 72) hW7)) | skip); clear hr7 hW7)
              | (go_at_call 27; refine (HTM.out _ _ (by (repeat (first | exact H7.out | exact Below.refl _ _ | (with_reducible apply below_drewN) | (with_reducible apply Below.drew) | (with_reducible apply below_new)))) (by first | exact HR7.out | exact Rd.below _ HR7.out (below_new (Below.refl _ _) _))).mono ?_; rintro e8 w8 ⟨m8, A8, l8, k8, x8, rfl, hr8, hW8⟩; have H8 : Hid (Below wr.heap.size wr w8) := below_next (by (repeat (first | exact H7.out | exact Below.refl _ _ | (with_reducible apply below_drewN) | (with_reducible apply Below.drew) | (with_reducible apply below_new)))) hW8; have HR8 := Lib.hid hr8; (first | (have HZ8 := Lib.hid (HZ7.out.below' hW8)) | (have HZ8 := Lib.hid (Blk.below' (Blk.new w7 #[.bool false, .slice none 0 0, .int .i64 0] 72) hW8)) | skip); clear hr8 hW8)
              | (go_at_call 26; refine (HPL.out _ _ (by (repeat (first | exact H8.out | exact Below.refl _ _ | (with_reducible apply below_drewN) | (with_reducible apply Below.drew) | (with_reducible apply below_new)))) (by first | exact HR8.out | exact Rd.below _ HR8.out (below_new (Below.refl _ _) _))).mono ?_; rintro e9 w9 ⟨m9, A9, l9, k9, x9, rfl, hr9, hW9⟩; have H9 : Hid (Below wr.heap.size wr w9) := below_next (by (repeat (first | exact H8.out | exact Below.refl _ _ | (with_reducible apply below_drewN) | (with_reducible apply Below.drew) | (with_reducible apply below_new)))) hW9; have HR9 := Lib.hid hr9; (first | (have HZ9 := Lib.hid (HZ8.out.below' hW9); obtain ⟨z0, z1, z2⟩ := three HZ9.out; have f0 := HZ9.out.frozen 0; have f1 := HZ9.out.frozen 1; have f2 := HZ9.out.frozen 2) | (have HZ9 := Lib.hid (Blk.below' (Blk.new w8 #[.bool false, .slice none 0 0, .int .i64 0] 72) hW9); obtain ⟨z0, z1, z2⟩ := three HZ9.out; have f0 := HZ9.out.frozen 0; have f1 := HZ9.out.frozen 1; have f2 := HZ9.out.frozen 2) | skip); clear hr9 hW9))
          all_goals (
            go_wp2_with fail
            go_meet
            rw [HE.out] at HR9
            have hvl := hS.out.V.lt
            first
              | (refine ⟨w9.heap.size, rfl, ?_⟩; exact hin_new (hS.out.next H9.out) HR9.out)
              | (refine ⟨w8.heap.size, rfl, ?_⟩; exact hin_set (hS.out.next H9.out) HZ9.out (by have h1 := H8.out.size; omega) hbs5 HR9.out)
              | (refine ⟨w7.heap.size, rfl, ?_⟩; exact hin_set (hS.out.next H9.out) HZ9.out (by have h1 := H7.out.size; omega) hbs5 HR9.out)
              | (refine ⟨wr.heap.size, rfl, ?_⟩; exact hin_set (hS.out.next H9.out) HZ9.out (by omega) hbs5 HR9.out))
        case rest =>
          obtain ⟨bc, rfl, hM⟩ := hcut
          go_wp2
          go_loopw [20] (fun jv wr => ∃ j : Nat, j ≤ z.G.length ∧ jv = .int .i64 j ∧ Hid (HIn w5 wr w.heap.size w5.heap.size bc (1074 + (1074 + d)) (1074 + d) (holdV a z.C z.R z.G P Q n z.Ids.length d k) (cenV z.C z.R z.G P Q d k j))) (fun jv _ => z.G.length - (intOf jv).toNat)
          case atStart => exact ⟨0, by omega, rfl, hM.out⟩
          case round =>
            obtain ⟨j, hj, rfl, hT⟩ := hrel
            have hi0 : (0 : Int) ≤ (k : Int) := by omega
            have hj0 : (0 : Int) ≤ (j : Int) := by omega
            have hbsq : w.heap.size ≤ _ := (HBW.out _ hT.out.W).size
            have c3 := (HXC.out _ hT.out.W).cell 3
            simp only [List.getElem?_cons_succ, List.getElem?_cons_zero] at c3
            by_cases hjl : j < z.G.length
            · obtain ⟨pg, Bg, cg, hBG, hgc, hgr⟩ := gat (HRB5.out _ hT.out.W).G hjl
              subst hBG
              have hgl2 := HGLn.out j hjl
              obtain ⟨l, hl⟩ : ∃ l, z.G.getD j [] = l := ⟨_, rfl⟩
              rw [hl] at hgc hgr hgl2
              obtain ⟨pb, nb, Ab, lb, kb, eb, hBgs, rb, b0, b1, b2⟩ := nat_elem hgr (i := k) (by rw [List.length_map]; omega)
              subst hBgs
              rw [getD_map_fv (by omega)] at rb
              have hik2 : (k : Int) < (l.length : Int) := by omega
              have hjl2 : (j : Int) < (z.G.length : Int) := by omega
              have hfg := HFg.out k j hlt hjl
              rw [hl] at hfg
              have hcap := HCAP.out k (by omega)
              have hbp := HQd.out j
              have hpr := mul_le2 hbp (fv_le_max hfg)
              have hcp : (Q j).natAbs < 2 ^ CapL := Nat.lt_of_le_of_lt (Nat.le_trans hbp (Nat.le_mul_of_pos_right _ fmax_pos)) hcap.2.2.2
              have hcb0 := cenV_bd HPd.out HQd.out (HFc.out k hlt) (HFr.out k hlt) j (fun i hi => HFg.out k i hlt (by omega))
              have hcb1 : (cenV z.C z.R z.G P Q d k j).natAbs < 2 ^ CapL := Nat.lt_of_le_of_lt (Nat.le_trans hcb0 (Nat.mul_le_mul_right _ (by omega))) hcap.2.2.1
              obtain ⟨neg, A2, n2, c2, ex, hvb, hvr⟩ := hT.out.C
              obtain ⟨s0, s1, s2⟩ := three hvb
              have hbcb := hT.out.bc
              have hb5 := hT.out.b
              have HVB := Lib.hid (fun W (hW : Below wr.heap.size wr W) => hvb.below' hW)
              have HKE := Lib.hid (fun W (hW : Below wr.heap.size wr W) => And.intro (cell_kept hW c3) (And.intro (cell_kept hW hgc) (And.intro (cell_kept hW b0) (And.intro (cell_kept hW b1) (cell_kept hW b2)))))
              have HPA := Lib.hid (fun W (hW : Below wr.heap.size wr W) => (show NumRet d w.heap.size (Q j) W = NumRet d w.heap.size (partS e j d) W from by rw [HQs.out]) ▸ HPE.out j W (HBW.out W (below_next hT.out.W hW)) (by omega))
              have HTM := Lib.hid (fun W cx (hW : Below wr.heap.size wr W) (hx : (numRd d).R W w.heap.size (Q j) cx) => times_c d w.heap.size (Q j) (fv (l.getD k 0)) cx _ W (Nat.le_trans hbsq hW.size) hx (Rd.below _ rb hW) hcp (fv_capL hfg) (by omega))
              have HPL := Lib.hid (fun W cx (hW : Below wr.heap.size wr W) (hx : (numRd (1074 + d)).R W w.heap.size (Q j * fv (l.getD k 0)) cx) => plus_o (1074 + d) w.heap.size (cenV z.C z.R z.G P Q d k j) (Q j * fv (l.getD k 0)) _ cx W (Nat.le_trans hbsq hW.size) (Rd.below _ hvr hW) hx hcb1 (Nat.lt_of_le_of_lt hpr hcap.2.2.2) (by omega))
              have HE : Hid (cenV z.C z.R z.G P Q d k j + Q j * fv (l.getD k 0) = cenV z.C z.R z.G P Q d k (j + 1)) := by rw [Hid, cenV, cenV, ptG, hl]; omega
              clear hvb hvr rb hfg hcap hbp hpr hcp hcb0 hcb1 hl hgr hgl2
              go_wp2
              go_region_with (first
                | (go_at_call 28; refine (HPA.out _ (by (repeat (first  | exact Below.refl _ _ | (with_reducible apply below_drewN) | (with_reducible apply Below.drew) | (with_reducible apply below_new))))).mono ?_; rintro e7 w7 ⟨m7, A7, l7, k7, x7, rfl, hr7, hW7⟩; have H7 : Hid (Below wr.heap.size wr w7) := below_next (by (repeat (first  | exact Below.refl _ _ | (with_reducible apply below_drewN) | (with_reducible apply Below.drew) | (with_reducible apply below_new)))) hW7; have HR7 := Lib.hid hr7; obtain ⟨q0, q1, q2⟩ := three (HVB.out _ H7.out); obtain ⟨t0, t1, t2, t3, t4⟩ := HKE.out _ H7.out; clear hr7 hW7)
                | (go_at_call 27; refine (HTM.out _ _ (by (repeat (first | exact H7.out | exact Below.refl _ _ | (with_reducible apply below_drewN) | (with_reducible apply Below.drew) | (with_reducible apply below_new)))) (by first | exact HR7.out)).mono ?_; rintro e8 w8 ⟨m8, A8, l8, k8, x8, rfl, hr8, hW8⟩; have H8 : Hid (Below wr.heap.size wr w8) := below_next (by (repeat (first | exact H7.out | exact Below.refl _ _ | (with_reducible apply below_drewN) | (with_reducible apply Below.drew) | (with_reducible apply below_new)))) hW8; have HR8 := Lib.hid hr8; obtain ⟨p0, p1, p2⟩ := three (HVB.out _ H8.out); clear hr8 hW8)
                | (go_at_call 26; refine (HPL.out _ _ (by (repeat (first | exact H8.out | exact Below.refl _ _ | (with_reducible apply below_drewN) | (with_reducible apply Below.drew) | (with_reducible apply below_new)))) (by first | exact HR8.out)).mono ?_; rintro e9 w9 ⟨m9, A9, l9, k9, x9, rfl, hr9, hW9⟩; have H9 : Hid (Below wr.heap.size wr w9) := below_next (by (repeat (first | exact H8.out | exact Below.refl _ _ | (with_reducible apply below_drewN) | (with_reducible apply Below.drew) | (with_reducible apply below_new)))) hW9; have HR9 := Lib.hid hr9; obtain ⟨r0, r1, r2⟩ := three (HVB.out _ H9.out); have f0 := (HVB.out _ H9.out).frozen 0; have f1 := (HVB.out _ H9.out).frozen 1; have f2 := (HVB.out _ H9.out).frozen 2; clear hr9 hW9))
              all_goals (
                rw [HE.out] at HR9
                go_wp2
                go_roundw
                case rel => exact ⟨j + 1, by omega, by go_num, (hT.out.next H9.out).updC hbs5 HR9.out⟩
                case measure => simp [intOf]; omega)
            · obtain rfl : j = z.G.length := by omega
              obtain ⟨pb, nb, Ab, lb, kb, eb, hB4, rb, b0, b1, b2⟩ := nat_elem (HAR.out wr hT.out.W) (i := k) (by rw [List.length_map]; omega)
              cases hB4
              rw [getD_map_fv (by omega)] at rb
              have hik2 : (k : Int) < (a.length : Int) := by omega
              have hcap := HCAP.out k (by omega)
              have hfa := HFa.out k (by omega)
              have hcb0 := cenV_bd HPd.out HQd.out (HFc.out k hlt) (HFr.out k hlt) z.G.length (fun i hi => HFg.out k i hlt hi)
              have hcb1 : (cenV z.C z.R z.G P Q d k z.G.length).natAbs < 2 ^ CapL := Nat.lt_of_le_of_lt hcb0 hcap.2.2.1
              have hpr := mul_le2 (fv_le_max hfa) hcb0
              have hvbd := holdV_bd HPd.out HQd.out HFa.out HFc.out HFr.out (K := z.G.length) (fun i j hi hj => HFg.out i j hi hj) k (by omega)
              rw [← HIG.out] at hvbd
              have hcap1 : (holdV a z.C z.R z.G P Q n z.Ids.length d k).natAbs < 2 ^ CapL := Nat.lt_of_le_of_lt hvbd (by rw [HIG.out]; exact hcap.1)
              obtain ⟨neg, A2, n2, c2, ex, hvb, hvr⟩ := hT.out.V
              obtain ⟨s0, s1, s2⟩ := three hvb
              obtain ⟨ncg, A6, n6, c6, x6, hcbk, hcr⟩ := hT.out.C
              obtain ⟨g0, g1, g2⟩ := three hcbk
              have hbcb := hT.out.bc
              have hb5 := hT.out.b
              have HVB := Lib.hid (fun W (hW : Below wr.heap.size wr W) => hvb.below' hW)
              have HTM := Lib.hid (fun W (hW : Below wr.heap.size wr W) => times_o 1074 (1074 + d) w.heap.size (fv (a.getD k 0)) (cenV z.C z.R z.G P Q d k z.G.length) _ _ W (Nat.le_trans hbsq hW.size) (Rd.below _ rb hW) (Rd.below _ hcr hW) (fv_capL hfa) hcb1 (by decide) (by omega))
              have HPL := Lib.hid (fun W cx (hW : Below wr.heap.size wr W) (hx : (numRd (1074 + (1074 + d))).R W w.heap.size (fv (a.getD k 0) * cenV z.C z.R z.G P Q d k z.G.length) cx) => plus_o (1074 + (1074 + d)) w.heap.size (holdV a z.C z.R z.G P Q n z.Ids.length d k) (fv (a.getD k 0) * cenV z.C z.R z.G P Q d k z.G.length) _ cx W (Nat.le_trans hbsq hW.size) (Rd.below _ hvr hW) hx hcap1 (Nat.lt_of_le_of_lt hpr hcap.2.1) (by omega))
              have HE : Hid (holdV a z.C z.R z.G P Q n z.Ids.length d k + fv (a.getD k 0) * cenV z.C z.R z.G P Q d k z.G.length = holdV a z.C z.R z.G P Q n z.Ids.length d (k + 1)) := by rw [Hid, holdV, cenV, HIG.out]
              clear hvb hvr rb hcbk hcr hcap hfa hcb0 hcb1 hpr hvbd hcap1 hjl
              go_wp2
              go_region_with (first
                | (go_at_call 27; refine (HTM.out _ (by (repeat (first  | exact Below.refl _ _ | (with_reducible apply below_drewN) | (with_reducible apply Below.drew) | (with_reducible apply below_new))))).mono ?_; rintro e8 w8 ⟨m8, A8, l8, k8, x8, rfl, hr8, hW8⟩; have H8 : Hid (Below wr.heap.size wr w8) := below_next (by (repeat (first  | exact Below.refl _ _ | (with_reducible apply below_drewN) | (with_reducible apply Below.drew) | (with_reducible apply below_new)))) hW8; have HR8 := Lib.hid hr8; obtain ⟨p0, p1, p2⟩ := three (HVB.out _ H8.out); clear hr8 hW8)
                | (go_at_call 26; refine (HPL.out _ _ (by (repeat (first | exact H8.out | exact Below.refl _ _ | (with_reducible apply below_drewN) | (with_reducible apply Below.drew) | (with_reducible apply below_new)))) (by first | exact HR8.out)).mono ?_; rintro e9 w9 ⟨m9, A9, l9, k9, x9, rfl, hr9, hW9⟩; have H9 : Hid (Below wr.heap.size wr w9) := below_next (by (repeat (first | exact H8.out | exact Below.refl _ _ | (with_reducible apply below_drewN) | (with_reducible apply Below.drew) | (with_reducible apply below_new)))) hW9; have HR9 := Lib.hid hr9; obtain ⟨r0, r1, r2⟩ := three (HVB.out _ H9.out); have f0 := (HVB.out _ H9.out).frozen 0; have f1 := (HVB.out _ H9.out).frozen 1; have f2 := (HVB.out _ H9.out).frozen 2; clear hr9 hW9))
              all_goals (
                rw [HE.out] at HR9
                go_wp2
                go_roundw
                case rel => exact ⟨k + 1, by omega, by go_num, (hT.out.next H9.out).updV hbs5 HR9.out⟩
                case measure => simp [intOf]; omega)
      · obtain rfl : n = k := by omega
        have hik : ¬ (n : Int) < z.N := by have := HNn.out; omega
        have HOFM := Lib.hid (fun W => of_fin m w.heap.size W hmf.1 hmf.2)
        have HAB := Lib.hid (fun W => apibits_calls m W)
        have hcap := HCAP.out n (Nat.le_refl _)
        have hcap0 := HCAP.out 0 (Nat.zero_le _)
        have hvbd := holdV_bd HPd.out HQd.out HFa.out HFc.out HFr.out (K := z.G.length) (fun i j hi hj => HFg.out i j hi hj) n (Nat.le_refl _)
        rw [← HIG.out] at hvbd
        have hX : (holdV a z.C z.R z.G P Q n z.Ids.length d n).natAbs < 2 ^ CapL := Nat.lt_of_le_of_lt hvbd (by rw [HIG.out]; exact hcap.1)
        have hY : (fv m * ((2 ^ (1074 + d) : Nat) : Int)).natAbs < 2 ^ CapL := Nat.lt_of_le_of_lt (mul_le2 (y := ((2 ^ (1074 + d) : Nat) : Int)) (fv_le_max hmf.2) (Nat.le_of_eq (Int.natAbs_natCast _))) (by have := hcap0.1; rw [Nat.zero_mul, Nat.add_zero] at this; exact this)
        have hle : fv m * ((2 ^ (1074 + d) : Nat) : Int) ≤ holdV a z.C z.R z.G P Q n z.Ids.length d n := by
          refine Int.le_trans ?_ HGE.out
          have h1 := Int.mul_le_mul_of_nonneg_left HML.out (show (0 : Int) ≤ ((2 ^ d : Nat) : Int) from Int.natCast_nonneg _)
          rw [Int.mul_left_comm] at h1
          rw [Nat.pow_add, Nat.mul_comm, Int.natCast_mul]
          exact h1
        obtain ⟨X, hXe⟩ : ∃ X, holdV a z.C z.R z.G P Q n z.Ids.length d n = X := ⟨_, rfl⟩
        obtain ⟨Y, hYe⟩ : ∃ Y, fv m * ((2 ^ (1074 + d) : Nat) : Int) = Y := ⟨_, rfl⟩
        have HYE := Lib.hid hYe
        have hS2 := hS.out
        rw [hXe] at hX hle hS2
        rw [hYe] at hY hle
        have HCM := Lib.hid (fun cx cy W (hb : w.heap.size ≤ W.heap.size) (hx : (numRd (1074 + (1074 + d))).R W w.heap.size X cx) (hy : (numRd (1074 + (1074 + d))).R W w.heap.size Y cy) => cmp_num (1074 + (1074 + d)) w.heap.size CapL X Y cx cy W hb hx hy hX hY (by decide) (by omega))
        obtain ⟨sg1, hsg⟩ : ∃ s, Int.sign (X - Y) = s := ⟨_, rfl⟩
        have hsg0 : 0 ≤ sg1 := by
          rw [← hsg]
          rcases Int.lt_trichotomy (X - Y) 0 with h | h | h
          · omega
          · rw [h]; decide
          · rw [Int.sign_eq_one_of_pos h]; decide
        rw [hsg] at HCM
        have HS2 := Lib.hid hS2
        obtain ⟨neg, A2, n2, c2, ex, hvb, hvr⟩ := hS2.V
        have HVB := Lib.hid (fun W (hW : Below wr.heap.size wr W) => And.intro (hvb.below' hW) (Rd.below _ hvr hW))
        have hbv := hS2.b
        clear hcap hcap0 hvbd hX hY hle hXe hYe hS2 hvb hvr hsg hS
        go_wp2_with fail
        refine (HAB.out _).mono ?_
        rintro e7 w' ⟨rfl, rfl⟩
        go_wp2_with fail
        refine (HOFM.out _).mono ?_
        rintro e8 w8 ⟨csl, rfl, hrl, hW8⟩
        obtain ⟨nl, al, ll, cl, el, rfl⟩ := num_open hrl
        have hrl2 := num_raise (J := 1074 + d) hrl
        rw [HYE.out] at hrl2
        have H8 := Lib.hid hW8
        have H8' := Lib.hid (below_new hW8 (.cells #[.bool nl, .slice al ll cl, .int .i64 el] 72))
        have HRL := Lib.hid (Rd.below _ hrl2 (below_new (Below.refl _ _) (.cells #[.bool nl, .slice al ll cl, .int .i64 el] 72)))
        obtain ⟨s0, s1, s2⟩ := three (HVB.out _ H8'.out).1
        clear hrl hrl2 hW8
        go_wp2_with fail
        refine (HCM.out _ _ _ (HBW.out _ (below_next HS2.out.W H8'.out)).size (HVB.out _ H8'.out).2 HRL.out).mono ?_
        rintro e9 w9 ⟨rfl, hW9⟩
        have H9 := Lib.hid (HBW.out _ (below_next HS2.out.W (below_next H8'.out hW9)))
        clear hW9 s0 s1 s2
        go_wp2_with fail
        refine (HAW.out _).mono ?_
        rintro e6 w6 ⟨rfl, hW6⟩
        have H6 := Lib.hid (below_next H9.out hW6)
        clear hW6
        go_wp2
        go_ret
        exact ⟨rfl, H6.out⟩
end Go.Proofs.YtcfejobdgiiihaaGreatDoor
