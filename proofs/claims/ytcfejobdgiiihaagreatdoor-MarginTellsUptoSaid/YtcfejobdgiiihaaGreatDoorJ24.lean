/- Walks and plain laws of this seat's functions, part 24: D2. -/
import Derived.Test.YtcfejobdgiiihaaGreatDoorJ17
import Derived.Test.YtcfejobdgiiihaaGreatDoorJ19
import Derived.Test.YtcfejobdgiiihaaGreatDoorJ22
import Derived.Test.YtcfejobdgiiihaaGreatDoorJ23
set_option linter.unusedVariables false
set_option linter.unusedSimpArgs false
namespace Go.Proofs.YtcfejobdgiiihaaGreatDoor
open Go.RowKit
attribute [local go_sem ↓] Go.wp_at_zero Go.wp_at_succ

/-! ### the law MarginTells -/
abbrev iRow (W : World) (b : Nat) (A : Option Addr) (xs : List Int) : Prop := i64.Row 3 W b A xs
abbrev uuuRow (W : World) (b : Nat) (A : Option Addr) (xs : List (List Nat)) : Prop := (bsl 50 u64).Row 33 W b A xs
abbrev uuRow (W : World) (b : Nat) (A : Option Addr) (xs : List Nat) : Prop := u64.Row 50 W b A xs
theorem msigns_any (z : Zn) (cs : List Value) (A : Option Addr) (a : List Nat) (n c : Nat) (k : Int) (w : World) (base : Nat) (h : zRd.R w base z cs) (hn : a.length = n) (ha : f64.Row 47 w base A a) (hal : a.length ≤ 17592186044416) :
    Calls Tryz.prog 20 #[.agg cs.toArray, .slice A n c, .int .i64 k] w (SgRet (signsS z a k) w) := by
  by_cases hk : k < 0 ∨ 256 < k
  · refine (msigns_nil z cs A n c k w base h hk).mono ?_
    rintro e w' ⟨rfl, hW⟩
    have e : signsS z a k = [] := by unfold signsS; rw [if_pos hk]
    rw [e]
    exact ⟨none, 0, rfl, Rd.Row.nil _ _ _ _ _, hW⟩
  · obtain ⟨k, rfl⟩ : ∃ j : Nat, k = j := ⟨k.toNat, by omega⟩
    refine (msigns_calls z cs A a n c k w base h hn ha hal (by omega)).mono ?_
    rintro e w' ⟨g, rfl, hg, hb, hW⟩
    have hs : signsS z a k = if fitsB z a then sgS z a k z.Ids.length else List.replicate k 0 := by unfold signsS; rw [if_neg hk, Int.toNat_natCast]
    have hl : (signsS z a k).length = k := by rw [hs]; split <;> simp [sgS_len]
    refine ⟨some ⟨g, 0, none⟩, k, by rw [hl], isI _ ?_ hb, hW⟩
    rw [hs]
    split
    · exact sgS_bd _ _ _ _
    · intro d hd; obtain ⟨_, rfl⟩ := List.mem_replicate.1 hd; exact ⟨by decide, by decide⟩
theorem rsigns_any (z : Zn) (cs : List Value) (A : Option Addr) (a : List Nat) (n c t b1 b2 : Nat) (k : Int) (w : World) (h : rzRd.R w b1 z cs) (hn : a.length = n) (ha : u64.Row t w b2 A a) (hal : n ≤ 1099511627776) :
    Calls Tryz.prog 21 #[.agg cs.toArray, .slice A n c, .int .i64 k] w (SgRet (signsS z a k) w) := by
  by_cases hk : k < 0 ∨ 256 < k
  · refine (rsigns_nil z cs A n c k w b1 h hk).mono ?_
    rintro e w' ⟨rfl, hW⟩
    have e : signsS z a k = [] := by unfold signsS; rw [if_pos hk]
    rw [e]
    exact ⟨none, 0, rfl, Rd.Row.nil _ _ _ _ _, hW⟩
  · obtain ⟨k, rfl⟩ : ∃ j : Nat, k = j := ⟨k.toNat, by omega⟩
    have hs : signsS z a k = if fitsB z a then sgS z a k z.Ids.length else List.replicate k 0 := by unfold signsS; rw [if_neg hk, Int.toNat_natCast]
    rw [hs]
    exact rsigns_some z cs A a n c t b1 b2 k w h hn ha hal (by omega)
theorem s7z_of {w w0 W : World} {t b : Nat} {x0 x1 x2 x3 x4 x5 u : Value} {q : Addr} (h : Blk W b t [x0, x1, x2, x3, x4, x5]) (hW : Below w0.heap.size w0 W) (hq : w0.cell? q = some u) :
    W.cell? ⟨b, 0, none⟩ = some x0 ∧ W.cell? ⟨b, 1, none⟩ = some x1 ∧ W.cell? ⟨b, 2, none⟩ = some x2 ∧ W.cell? ⟨b, 3, none⟩ = some x3 ∧ W.cell? ⟨b, 4, none⟩ = some x4 ∧ W.cell? ⟨b, 5, none⟩ = some x5 ∧ W.cell? q = some u := s7_of h hW hq
theorem s13_of {w0 W : World} {t t' b b' : Nat} {x0 x1 x2 x3 x4 x5 y0 y1 y2 y3 y4 y5 u : Value} {q : Addr} (h : Blk W b t [x0, x1, x2, x3, x4, x5]) (h' : Blk W b' t' [y0, y1, y2, y3, y4, y5]) (hW : Below w0.heap.size w0 W) (hq : w0.cell? q = some u) :
    W.cell? ⟨b, 0, none⟩ = some x0 ∧ W.cell? ⟨b, 1, none⟩ = some x1 ∧ W.cell? ⟨b, 2, none⟩ = some x2 ∧ W.cell? ⟨b, 3, none⟩ = some x3 ∧ W.cell? ⟨b, 4, none⟩ = some x4 ∧ W.cell? ⟨b, 5, none⟩ = some x5 ∧ W.cell? ⟨b', 0, none⟩ = some y0 ∧ W.cell? ⟨b', 1, none⟩ = some y1 ∧ W.cell? ⟨b', 2, none⟩ = some y2 ∧ W.cell? ⟨b', 3, none⟩ = some y3 ∧ W.cell? ⟨b', 4, none⟩ = some y4 ∧ W.cell? ⟨b', 5, none⟩ = some y5 ∧ W.cell? q = some u :=
  ⟨h.cell 0, h.cell 1, h.cell 2, h.cell 3, h.cell 4, h.cell 5, h'.cell 0, h'.cell 1, h'.cell 2, h'.cell 3, h'.cell 4, h'.cell 5, cell_kept hW hq⟩
set_option maxHeartbeats 16000000 in
set_option maxRecDepth 100000 in
theorem tells_law (z : Zn) (cs : List Value) (A : Option Addr) (claims : List (List Nat)) (n c base : Nat) (k : Int) (w : World) (h : zRd.R w base z cs) (hn : claims.length = n) (ha : (bsl 47 f64).Row 22 w base A claims) (hal : n ≤ 5864062014805) (hll : ∀ k, (claims.getD k []).length ≤ 1099511627776) (hbase : base ≤ w.heap.size) :
    Calls Tryz.prog 4 #[.agg cs.toArray, .slice A n c, .int .i64 k] w fun e w' => e = .returned (.bool true) ∧ Below w.heap.size w w' := by
  subst hn
  have HZ := Lib.hid (fun W (hW : Below w.heap.size w W) => zRd.below h hW)
  have HC := Lib.hid (fun W (hW : Below w.heap.size w W) => (show (bsl 47 f64).Row 22 W base A claims from ha.below hW))
  have HLL := Lib.hid hll
  obtain ⟨AC, AI, AG, AR, cC, cI, cG, cR, rfl, hr, hl⟩ := h
  have HOF := Lib.hid (fun W (hW : Below w.heap.size w W) => of10_calls z _ W base w.heap.size (HZ.out W hW) hW.size)
  have HW := Lib.hid (below_new (Below.refl w.heap.size w) (.cells #[.int .i64 z.N, .slice AC z.C.length cC, .slice AI z.Ids.length cI, .slice AG z.G.length cG, .slice AR z.R.length cR, .bool z.bad] 42))
  have HB := Lib.hid (Blk.new w #[.int .i64 z.N, .slice AC z.C.length cC, .slice AI z.Ids.length cI, .slice AG z.G.length cG, .slice AR z.R.length cR, .bool z.bad] 42)
  have HAW := Lib.hid (fun W => awake_calls W)
  clear hr hl ha hll
  go_enter Tryz.func4, Tryz.ntmps4
  go_wp2_with fail
  refine (HOF.out _ HW.out).mono ?_
  rintro e w1 ⟨csx, rfl, hx1, hW1⟩
  have HX1 := Lib.hid hx1
  obtain ⟨BC, BI, BG, BR, dC, dI, dG, dR, rfl, _, _⟩ := hx1
  have H1 := Lib.hid (And.intro (below_next HW.out hW1) (HB.out.below' hW1))
  obtain ⟨bx, hbx⟩ : ∃ b, w1.heap.size = b := ⟨_, rfl⟩
  have HE0 : Hid (Below w.heap.size w (w1.alloc (.cells #[.int .i64 z.N, .slice BC z.C.length dC, .slice BI z.Ids.length dI, .slice BG z.G.length dG, .slice BR z.R.length dR, .bool z.bad] 44)) ∧ Blk (w1.alloc (.cells #[.int .i64 z.N, .slice BC z.C.length dC, .slice BI z.Ids.length dI, .slice BG z.G.length dG, .slice BR z.R.length dR, .bool z.bad] 44)) w.heap.size 42 [.int .i64 z.N, .slice AC z.C.length cC, .slice AI z.Ids.length cI, .slice AG z.G.length cG, .slice AR z.R.length cR, .bool z.bad] ∧ Blk (w1.alloc (.cells #[.int .i64 z.N, .slice BC z.C.length dC, .slice BI z.Ids.length dI, .slice BG z.G.length dG, .slice BR z.R.length dR, .bool z.bad] 44)) bx 44 [.int .i64 z.N, .slice BC z.C.length dC, .slice BI z.Ids.length dI, .slice BG z.G.length dG, .slice BR z.R.length dR, .bool z.bad] ∧ rzRd.R (w1.alloc (.cells #[.int .i64 z.N, .slice BC z.C.length dC, .slice BI z.Ids.length dI, .slice BG z.G.length dG, .slice BR z.R.length dR, .bool z.bad] 44)) w.heap.size z [.int .i64 z.N, .slice BC z.C.length dC, .slice BI z.Ids.length dI, .slice BG z.G.length dG, .slice BR z.R.length dR, .bool z.bad]) :=
    ⟨below_new H1.out.1 _, H1.out.2.alloc _, by rw [← hbx]; exact Blk.new _ _ _, rzRd.below HX1.out (below_new (Below.refl _ _) _)⟩
  clear hW1 HOF HW HB H1 HX1
  go_wp2
  try rw [hbx]
  obtain ⟨wx, hwx⟩ : ∃ W, w1.alloc (.cells #[.int .i64 z.N, .slice BC z.C.length dC, .slice BI z.Ids.length dI, .slice BG z.G.length dG, .slice BR z.R.length dR, .bool z.bad] 44) = W := ⟨_, rfl⟩
  rw [hwx] at HE0 ⊢
  clear hwx hbx
  have HXX := Lib.hid (fun W (hW : Below wx.heap.size wx W) => rzRd.below HE0.out.2.2.2 hW)
  have HWW := Lib.hid (fun W (hW : Below wx.heap.size wx W) => below_next HE0.out.1 hW)
  have HBB := Lib.hid (fun W (hW : Below wx.heap.size wx W) => And.intro (HE0.out.2.1.below' hW) (HE0.out.2.2.1.below' hW))
  go_loopw [8, 9, 10, 11, 12, 13] (fun i _ _ _ _ _ wr => ∃ j : Nat, j ≤ claims.length ∧ i = .int .i64 j ∧ Hid (Below wx.heap.size wx wr)) (fun i _ _ _ _ _ _ => claims.length - (intOf i).toNat)
  case atStart => exact ⟨0, by omega, rfl, Below.refl _ _⟩
  case round =>
    obtain ⟨j, hj, rfl, hW⟩ := hrel
    by_cases hin : j < claims.length ∧ j < 20
    · obtain ⟨hlt, h20⟩ := hin
      obtain ⟨p, B, l, lc, rfl, hcg, hge, hlc, hlC, hrow⟩ := bsl_at (HC.out wx HE0.out.1) hlt
      have hl2 : l.length ≤ 1099511627776 := by have := HLL.out j; rw [hge.out] at this; exact this
      have HROW := Lib.hid (fun W (hW : Below wx.heap.size wx W) => (show f64.Row 47 W base B l from hrow.below hW))
      have HBI := Lib.hid (bits10_calls B l l.length lc 47 base w.heap.size wr rfl (HROW.out wr hW.out) hlC (HWW.out wr hW.out).size)
      obtain ⟨o, ho⟩ : ∃ o, marginS z l = o := ⟨_, rfl⟩
      obtain ⟨ss, hss⟩ : ∃ s, signsS z l k = s := ⟨_, rfl⟩
      have HMM := fun W (hW : Below wx.heap.size wx W) => mmargin_calls z _ B l l.length lc W base (HZ.out W (HWW.out W hW)) rfl (HROW.out W hW) hlC
      have HRM := fun D dc W (hW : Below wx.heap.size wx W) (hd : uuRow W w.heap.size D l) => rmargin_calls z _ D l l.length dc 50 w.heap.size w.heap.size W (HXX.out W hW) rfl hd hl2
      have HMS := fun W (hW : Below wx.heap.size wx W) => msigns_any z _ B l l.length lc k W base (HZ.out W (HWW.out W hW)) rfl (HROW.out W hW) hlC
      have HRS := fun D dc W (hW : Below wx.heap.size wx W) (hd : uuRow W w.heap.size D l) => rsigns_any z _ D l l.length dc 50 w.heap.size w.heap.size k W (HXX.out W hW) rfl hd hl2
      rw [ho] at HMM HRM
      rw [hss] at HMS HRS
      unfold fRet at HMM
      unfold MgRet optRet at HRM
      unfold SgRet at HMS HRS
      obtain ⟨mv, hmv⟩ : ∃ m, o.getD 0 = m := ⟨_, rfl⟩
      obtain ⟨bb, hbb⟩ : ∃ b, o.isSome = b := ⟨_, rfl⟩
      rw [hmv, hbb] at HMM HRM
      have HSL : Hid (ss.length ≤ 1000) := by
        rw [Hid, ← hss]; unfold signsS
        split
        · simp
        · split
          · rw [sgS_len]; omega
          · rw [List.length_replicate]; omega
      replace HMM := Lib.hid HMM
      replace HRM := Lib.hid HRM
      replace HMS := Lib.hid HMS
      replace HRS := Lib.hid HRS
      have HAB := Lib.hid (fun W => apibits_calls mv W)
      have hne1 : (bb != bb) = false := by cases bb <;> rfl
      have hne2 : ((mv : Int) != (mv : Int)) = false := by simp
      have HSI := Lib.hid (fun D E c1 c2 b1 b2 W (h1 : iRow W b1 D ss) (h2 : iRow W b2 E ss) => sameints_calls D E ss ss ss.length ss.length c1 c2 3 3 b1 b2 W rfl rfl h1 h2 (Nat.le_trans HSL.out (by decide)) (Nat.le_trans HSL.out (by decide)))
      rw [show decide (ss = ss) = true from decide_eq_true rfl] at HSI
      have hi1 : (j : Int) < (claims.length : Int) := by omega
      have hi2 : (j : Int) < 20 := by omega
      have hi3 : (0 : Int) ≤ (j : Int) := by omega
      have hcg' : wr.cell? (p.add j) = some (.slice B l.length lc) := cell_kept hW.out hcg
      clear hrow ho hss hmv hbb hlt h20
      go_wp2_with fail
      refine HBI.out.mono ?_
      rintro e w2 ⟨D, dc, rfl, hdc, hD, hW2⟩
      have H2 := Lib.hid (below_next hW.out hW2)
      have HD := Lib.hid (fun W (hW : Below w2.heap.size w2 W) => (show uuRow W w.heap.size D l from hD.below hW))
      obtain ⟨z0, z1, z2, z3, z4, z5⟩ := six (HBB.out _ H2.out).1
      have hc2 : w2.cell? (p.add j) = some (.slice B l.length lc) := cell_kept H2.out hcg
      clear hD hW2 hcg' HBI
      go_wp2_with fail
      go_region_held3 (fun W => W.cell? ⟨w.heap.size, 0, none⟩ = some (.int .i64 z.N) ∧ W.cell? ⟨w.heap.size, 1, none⟩ = some (.slice AC z.C.length cC) ∧ W.cell? ⟨w.heap.size, 2, none⟩ = some (.slice AI z.Ids.length cI) ∧ W.cell? ⟨w.heap.size, 3, none⟩ = some (.slice AG z.G.length cG) ∧ W.cell? ⟨w.heap.size, 4, none⟩ = some (.slice AR z.R.length cR) ∧ W.cell? ⟨w.heap.size, 5, none⟩ = some (.bool z.bad) ∧ W.cell? (p.add j) = some (.slice B l.length lc))
        (first | (with_reducible exact s7_of (HBB.out _ H3.out).1 H3.out hcg) | ((try dsimp only); (repeat' apply And.intro) <;> go_keep))
        ((go_at_call 16; refine (HMM.out _ (by (repeat (first | exact H2.out | exact Below.refl _ _ | (with_reducible apply below_drewN) | (with_reducible apply Below.drew) | (with_reducible apply below_new))))).mono ?_; rintro e w3 ⟨rfl, hW3⟩; have H3 : Hid (Below wx.heap.size wx w3) := below_next (by (repeat (first | exact H2.out | exact Below.refl _ _ | (with_reducible apply below_drewN) | (with_reducible apply Below.drew) | (with_reducible apply below_new)))) hW3; have H23 : Hid (Below w2.heap.size w2 w3) := below_next (by (repeat (first  | exact Below.refl _ _ | (with_reducible apply below_drewN) | (with_reducible apply Below.drew) | (with_reducible apply below_new)))) hW3; clear hW3))
      clear z0 z1 z2 z3 z4 z5 hc2
      obtain ⟨y0, y1, y2, y3, y4, y5⟩ := six (HBB.out _ H3.out).2
      go_wp2_with fail
      refine (HRM.out D dc _ H3.out (HD.out _ H23.out)).mono ?_
      rintro e w4 ⟨rfl, hW4⟩
      have H4 := Lib.hid (below_next H3.out hW4)
      have H24 := Lib.hid (below_next H23.out hW4)
      clear y0 y1 y2 y3 y4 y5 hW4
      obtain ⟨z0, z1, z2, z3, z4, z5⟩ := six (HBB.out _ H4.out).1
      obtain ⟨y0, y1, y2, y3, y4, y5⟩ := six (HBB.out _ H4.out).2
      have hc4 : w4.cell? (p.add j) = some (.slice B l.length lc) := cell_kept H4.out hcg
      go_wp2_with fail
      go_region_held3 (fun W => W.cell? ⟨w.heap.size, 0, none⟩ = some (.int .i64 z.N) ∧ W.cell? ⟨w.heap.size, 1, none⟩ = some (.slice AC z.C.length cC) ∧ W.cell? ⟨w.heap.size, 2, none⟩ = some (.slice AI z.Ids.length cI) ∧ W.cell? ⟨w.heap.size, 3, none⟩ = some (.slice AG z.G.length cG) ∧ W.cell? ⟨w.heap.size, 4, none⟩ = some (.slice AR z.R.length cR) ∧ W.cell? ⟨w.heap.size, 5, none⟩ = some (.bool z.bad) ∧ W.cell? ⟨bx, 0, none⟩ = some (.int .i64 z.N) ∧ W.cell? ⟨bx, 1, none⟩ = some (.slice BC z.C.length dC) ∧ W.cell? ⟨bx, 2, none⟩ = some (.slice BI z.Ids.length dI) ∧ W.cell? ⟨bx, 3, none⟩ = some (.slice BG z.G.length dG) ∧ W.cell? ⟨bx, 4, none⟩ = some (.slice BR z.R.length dR) ∧ W.cell? ⟨bx, 5, none⟩ = some (.bool z.bad) ∧ W.cell? (p.add j) = some (.slice B l.length lc))
        (first | (with_reducible exact s13_of (HBB.out _ H8.out).1 (HBB.out _ H8.out).2 H8.out hcg) | (with_reducible exact s13_of (HBB.out _ H7.out).1 (HBB.out _ H7.out).2 H7.out hcg) | (with_reducible exact s13_of (HBB.out _ H6.out).1 (HBB.out _ H6.out).2 H6.out hcg) | (with_reducible exact s13_of (HBB.out _ H5.out).1 (HBB.out _ H5.out).2 H5.out hcg) | ((try dsimp only); (repeat' apply And.intro) <;> go_keep))
        (first
          | (go_at_call 18; refine (HAB.out _).mono ?_; rintro e w' ⟨rfl, rfl⟩)
          | (go_at_call 20; first
              | (have _t := HR6; refine (HMS.out _ (by (repeat (first | exact H6.out | exact Below.refl _ _ | (with_reducible apply below_drewN) | (with_reducible apply Below.drew) | (with_reducible apply below_new))))).mono ?_; rintro e w5 ⟨E1, f1, rfl, hE1, hW5⟩; have H5 : Hid (Below wx.heap.size wx w5) := below_next (by (repeat (first | exact H6.out | exact Below.refl _ _ | (with_reducible apply below_drewN) | (with_reducible apply Below.drew) | (with_reducible apply below_new)))) hW5; have HR5 := Lib.hid hE1; have HR6' := Lib.hid (HR6.out.below hW5); have H7 := H5; clear hE1 hW5)
              | (refine (HMS.out _ (by (repeat (first | exact H4.out | exact Below.refl _ _ | (with_reducible apply below_drewN) | (with_reducible apply Below.drew) | (with_reducible apply below_new))))).mono ?_; rintro e w5 ⟨E1, f1, rfl, hE1, hW5⟩; have H5 : Hid (Below wx.heap.size wx w5) := below_next (by (repeat (first | exact H4.out | exact Below.refl _ _ | (with_reducible apply below_drewN) | (with_reducible apply Below.drew) | (with_reducible apply below_new)))) hW5; have H25 : Hid (Below w2.heap.size w2 w5) := below_next (by (repeat (first | exact H24.out | exact Below.refl _ _ | (with_reducible apply below_drewN) | (with_reducible apply Below.drew) | (with_reducible apply below_new)))) hW5; have HR5 := Lib.hid hE1; clear hE1 hW5))
          | (go_at_call 21; first
              | (have _t := HR5; refine (HRS.out D dc _ (by (repeat (first | exact H5.out | exact Below.refl _ _ | (with_reducible apply below_drewN) | (with_reducible apply Below.drew) | (with_reducible apply below_new)))) (HD.out _ (by (repeat (first | exact H25.out | exact Below.refl _ _ | (with_reducible apply below_drewN) | (with_reducible apply Below.drew) | (with_reducible apply below_new)))))).mono ?_; rintro e w6 ⟨E2, f2, rfl, hE2, hW6⟩; have H6 : Hid (Below wx.heap.size wx w6) := below_next (by (repeat (first | exact H5.out | exact Below.refl _ _ | (with_reducible apply below_drewN) | (with_reducible apply Below.drew) | (with_reducible apply below_new)))) hW6; have HR6 := Lib.hid hE2; have HR5' := Lib.hid (HR5.out.below hW6); have H7 := H6; clear hE2 hW6)
              | (refine (HRS.out D dc _ (by (repeat (first | exact H4.out | exact Below.refl _ _ | (with_reducible apply below_drewN) | (with_reducible apply Below.drew) | (with_reducible apply below_new)))) (HD.out _ (by (repeat (first | exact H24.out | exact Below.refl _ _ | (with_reducible apply below_drewN) | (with_reducible apply Below.drew) | (with_reducible apply below_new)))))).mono ?_; rintro e w6 ⟨E2, f2, rfl, hE2, hW6⟩; have H6 : Hid (Below wx.heap.size wx w6) := below_next (by (repeat (first | exact H4.out | exact Below.refl _ _ | (with_reducible apply below_drewN) | (with_reducible apply Below.drew) | (with_reducible apply below_new)))) hW6; have HR6 := Lib.hid hE2; clear hE2 hW6))
          | (go_at_call 19; first
              | (have _t := HR5'; refine (HSI.out E1 E2 f1 f2 _ _ _ HR5'.out HR6.out).mono ?_; rintro e w8 ⟨rfl, q8, rfl⟩; have H8 := Lib.hid (below_drewN H7.out q8))
              | (have _t := HR6'; refine (HSI.out E1 E2 f1 f2 _ _ _ HR5.out HR6'.out).mono ?_; rintro e w8 ⟨rfl, q8, rfl⟩; have H8 := Lib.hid (below_drewN H7.out q8))))
      all_goals (
        clear z0 z1 z2 z3 z4 z5 y0 y1 y2 y3 y4 y5 hc4
        go_wp2
        go_roundw
        case rel => exact ⟨j + 1, by omega, by go_num, H8.out⟩
        case measure => simp [intOf]; omega)
    · have hx : Hid (¬ (j < claims.length ∧ j < 20)) := hin
      have HLI := Lib.hid (fun W (hW : Below wx.heap.size wx W) => lists_calls A claims claims.length c 22 47 base w.heap.size W rfl (HC.out W (HWW.out W hW)) hal (HWW.out W hW).size)
      obtain ⟨ws, hws⟩ : ∃ o, worstS z claims = o := ⟨_, rfl⟩
      have HMW := fun W (hW : Below wx.heap.size wx W) => mworst_calls z _ A claims claims.length c W base (HZ.out W (HWW.out W hW)) rfl (HC.out W (HWW.out W hW)) (Nat.le_trans hal (by decide))
      have HRW := fun D dc W (hW : Below wx.heap.size wx W) (hd : uuuRow W w.heap.size D claims) => rworst_calls z _ D claims claims.length dc w.heap.size w.heap.size W (HXX.out W hW) rfl hd (Nat.le_trans hal (by decide)) HLL.out
      rw [hws] at HMW HRW
      unfold WsRet at HRW
      obtain ⟨wi, wm, wb, hwm, hwr⟩ : ∃ (wi wm : Nat) (wb : Bool), wRet ws = .returned (.tuple #[.int .i64 (wi : Nat), .float .f64 wm, .bool wb]) ∧ uRet ws = .returned (.tuple #[.int .i64 (wi : Nat), .int .u64 (wm : Nat), .bool wb]) := by
        rcases ws with _ | ⟨i, m⟩
        · exact ⟨0, 0, false, rfl, rfl⟩
        · exact ⟨i, m, true, rfl, rfl⟩
      rw [hwm] at HMW
      rw [hwr] at HRW
      have HMWH := Lib.hid HMW
      have HRWH := Lib.hid HRW
      have HAB := Lib.hid (fun W => apibits_calls wm W)
      have q1 : ((wi : Int) == (wi : Int)) = true := by simp
      have q2 : (wb == wb) = true := by cases wb <;> rfl
      have q3 : ((wm : Int) == (wm : Int)) = true := by simp
      clear hws hwm hwr HMW HRW hin
      obtain ⟨z0, z1, z2, z3, z4, z5⟩ := six (HBB.out _ hW.out).1
      by_cases h1 : j < claims.length
      case' pos =>
        have h20 : ¬ (j : Int) < 20 := by have := hx.out; omega
        have hi1 : (j : Int) < (claims.length : Int) := by omega
        clear h1
      case' neg =>
        have hi1 : ¬ (j : Int) < (claims.length : Int) := by omega
        clear h1
      all_goals (
        go_wp2_with fail
        refine (HMWH.out _ hW.out).mono ?_
        rintro e w2 ⟨rfl, hW2⟩
        have H2 := Lib.hid (below_next hW.out hW2)
        obtain ⟨y0, y1, y2, y3, y4, y5⟩ := six (HBB.out _ H2.out).2
        clear hW2 z0 z1 z2 z3 z4 z5
        go_wp2_with fail
        go_region_held3 (fun W => W.cell? ⟨bx, 0, none⟩ = some (.int .i64 z.N) ∧ W.cell? ⟨bx, 1, none⟩ = some (.slice BC z.C.length dC) ∧ W.cell? ⟨bx, 2, none⟩ = some (.slice BI z.Ids.length dI) ∧ W.cell? ⟨bx, 3, none⟩ = some (.slice BG z.G.length dG) ∧ W.cell? ⟨bx, 4, none⟩ = some (.slice BR z.R.length dR) ∧ W.cell? ⟨bx, 5, none⟩ = some (.bool z.bad))
          (first | (with_reducible exact six (HBB.out _ H4.out).2) | (with_reducible exact six (HBB.out _ H3.out).2) | ((try dsimp only); (repeat' apply And.intro) <;> go_keep))
          (first
            | (go_at_call 13; refine (HLI.out _ (by (repeat (first | exact H2.out | exact Below.refl _ _ | (with_reducible apply below_drewN) | (with_reducible apply Below.drew) | (with_reducible apply below_new))))).mono ?_; rintro e w3 ⟨D, dc, rfl, hdc, hD, hW3⟩; have H3 : Hid (Below wx.heap.size wx w3) := below_next (by (repeat (first | exact H2.out | exact Below.refl _ _ | (with_reducible apply below_drewN) | (with_reducible apply Below.drew) | (with_reducible apply below_new)))) hW3; have HD := Lib.hid hD; clear hD hW3)
            | (go_at_call 23; refine (HRWH.out D dc _ (by (repeat (first | exact H3.out | exact Below.refl _ _ | (with_reducible apply below_drewN) | (with_reducible apply Below.drew) | (with_reducible apply below_new)))) HD.out).mono ?_; rintro e w4 ⟨rfl, hW4⟩; have H4 : Hid (Below wx.heap.size wx w4) := below_next (by (repeat (first | exact H3.out | exact Below.refl _ _ | (with_reducible apply below_drewN) | (with_reducible apply Below.drew) | (with_reducible apply below_new)))) hW4; clear hW4))
        clear y0 y1 y2 y3 y4 y5
        go_wp2_with fail
        refine (HAB.out _).mono ?_
        rintro e w' ⟨rfl, rfl⟩
        go_wp2_with fail
        refine (HAW.out _).mono ?_
        rintro e w5 ⟨rfl, hW5⟩
        have H5 := Lib.hid (HWW.out _ (below_next H4.out hW5))
        clear hW5
        go_wp2
        go_ret
        exact ⟨rfl, H5.out⟩)
end Go.Proofs.YtcfejobdgiiihaaGreatDoor
