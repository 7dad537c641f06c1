/- Walks and plain laws of this seat's functions, part 21: C7 C8 C9 C10 C15. -/
import Derived.Test.YtcfejobdgiiihaaGreatDoorJ14
import Derived.Test.YtcfejobdgiiihaaGreatDoorJ18
set_option linter.unusedVariables false
set_option linter.unusedSimpArgs false
namespace Go.Proofs.YtcfejobdgiiihaaGreatDoor
open Go.RowKit

abbrev mRd2 : Rd Int := numRd 2148
theorem addr_succ (p : Addr) (n : Nat) (h : 0 < n) : (⟨p.block, p.off + n, none⟩ : Addr) = p.add n := by
  unfold Addr.add; rw [if_neg (by omega)]
theorem nat_elem {K t : Nat} {w : World} {base : Nat} {A : Option Addr} {xs : List Int} (h : (numRd K).Row t w base A xs) {i : Nat} (hi : i < xs.length) :
    ∃ (a : Addr) (neg : Bool) (A2 : Option Addr) (n c : Nat) (e : Int), A = some a ∧ (numRd K).R w base (xs.getD i 0) [.bool neg, .slice A2 n c, .int .i64 e] ∧
      w.cell? (a.add (i * 3)) = some (.bool neg) ∧ w.cell? ⟨(a.add (i * 3)).block, (a.add (i * 3)).off + 1, none⟩ = some (.slice A2 n c) ∧ w.cell? ⟨(a.add (i * 3)).block, (a.add (i * 3)).off + 2, none⟩ = some (.int .i64 e) := by
  obtain ⟨a, cs, ha, _, _, hr, hc⟩ := h i xs[i] (by simp [hi])
  have hr0 := hr
  obtain ⟨neg, m, e, v, rfl, ⟨ys, A2, c, hv, _⟩, _⟩ := hr
  cases hv
  refine ⟨a, neg, A2, ys.length, c, e, ha, ?_, hc 0 _ rfl, by rw [addr_succ _ 1 (by decide), Addr.add_add]; exact hc 1 _ rfl, by rw [addr_succ _ 2 (by decide), Addr.add_add]; exact hc 2 _ rfl⟩
  rw [List.getD_eq_getElem?_getD, List.getElem?_eq_getElem hi]; exact hr0
theorem num_open {K : Nat} {w : World} {base : Nat} {X : Int} {cs : List Value} (h : (numRd K).R w base X cs) : ∃ neg A n c e, cs = [.bool neg, .slice A n c, .int .i64 e] := by
  obtain ⟨neg, m, e, v, rfl, ⟨ys, A2, c, hv, _⟩, _⟩ := h
  cases hv
  exact ⟨_, _, _, _, _, rfl⟩
def CapL : Nat := 4772
theorem times_o (K J base : Nat) (X Y : Int) (cx cy : List Value) (w : World) (hbase : base ≤ w.heap.size) (hx : (numRd K).R w base X cx) (hy : (numRd J).R w base Y cy)
    (hX : X.natAbs < 2 ^ CapL) (hY : Y.natAbs < 2 ^ CapL) (hK : K ≤ 1073741824) (hJ : J ≤ 1073741824) :
    Calls Tryz.prog 27 #[.agg cx.toArray, .agg cy.toArray] w fun r w' => ∃ neg A n c e, r = .returned (.agg #[.bool neg, .slice A n c, .int .i64 e]) ∧ (numRd (K + J)).R w' base (X * Y) [.bool neg, .slice A n c, .int .i64 e] ∧ Below w.heap.size w w' := by
  refine (times_num K J base CapL X Y cx cy w hbase hx hy hX hY (by decide) hK hJ).mono ?_
  rintro r w' ⟨cs, rfl, hr, hW⟩
  obtain ⟨neg, A, n, c, e, rfl⟩ := num_open hr
  exact ⟨_, _, _, _, _, rfl, hr, hW⟩
theorem plus_o (K base : Nat) (X Y : Int) (cx cy : List Value) (w : World) (hbase : base ≤ w.heap.size) (hx : (numRd K).R w base X cx) (hy : (numRd K).R w base Y cy)
    (hX : X.natAbs < 2 ^ CapL) (hY : Y.natAbs < 2 ^ CapL) (hK : K ≤ 1073741824) :
    Calls Tryz.prog 26 #[.agg cx.toArray, .agg cy.toArray] w fun r w' => ∃ neg A n c e, r = .returned (.agg #[.bool neg, .slice A n c, .int .i64 e]) ∧ (numRd K).R w' base (X + Y) [.bool neg, .slice A n c, .int .i64 e] ∧ Below w.heap.size w w' := by
  refine (plus_num K base CapL X Y cx cy w hbase hx hy hX hY (by decide) hK).mono ?_
  rintro r w' ⟨cs, rfl, hr, hW⟩
  obtain ⟨neg, A, n, c, e, rfl⟩ := num_open hr
  exact ⟨_, _, _, _, _, rfl, hr, hW⟩
theorem three {w : World} {b t : Nat} {x0 x1 x2 : Value} (h : Blk w b t [x0, x1, x2]) : w.cell? ⟨b, 0, none⟩ = some x0 ∧ w.cell? ⟨b, 1, none⟩ = some x1 ∧ w.cell? ⟨b, 2, none⟩ = some x2 := ⟨h.cell 0, h.cell 1, h.cell 2⟩
set_option exponentiation.threshold 6000 in
theorem cap_eqL : Cap = 2 ^ CapL := rfl
theorem getD_map_fv {a : List Nat} {k : Nat} (h : k < a.length) : (a.map fv).getD k 0 = fv (a.getD k 0) := by
  rw [List.getD_eq_getElem?_getD, List.getD_eq_getElem?_getD, List.getElem?_map, List.getElem?_eq_getElem h]; rfl
set_option exponentiation.threshold 6000 in
theorem weigh_bd {a l : List Nat} (haf : a.all fin = true) (hlf : l.all fin = true) (hle : l.length ≤ a.length) (hm2 : l.length ≤ 256) {k : Nat} (hk : k < l.length) {xa xb : Int} (hxa : (a.map fv).getD k 0 = xa) (hxb : (l.map fv).getD k 0 = xb) :
    xa.natAbs < 2 ^ CapL ∧ xb.natAbs < 2 ^ CapL ∧ (xa * xb).natAbs < 2 ^ CapL ∧ (dotS a l k).natAbs < 2 ^ CapL ∧ dotS a l k + xa * xb = dotS a l (k + 1) := by
  rw [getD_map_fv (by omega)] at hxa
  rw [getD_map_fv hk] at hxb
  have h1 := fv_le_max (all_getD haf (show k < _ by omega))
  have h2 := fv_le_max (all_getD hlf hk)
  have h3 := natAbs_mul_le h1 h2
  have h4 := dotS_bd haf hlf k (by omega) (by omega)
  rw [show fMax * fMax = F2 from rfl] at h3
  rw [← hxa, ← hxb, ← cap_eqL]
  have hc := F2_cap
  have hp : 0 < 2 ^ 64 := by decide
  have hf : fMax ≤ F2 := Nat.le_mul_of_pos_left _ (by unfold fMax; exact Nat.mul_pos (by decide) (Nat.pow_pos (by decide)))
  have e1 : k * F2 ≤ 256 * F2 := Nat.mul_le_mul_right _ (by omega)
  have e2 : 72057594037927936 * F2 ≤ 72057594037927936 * F2 * 2 ^ 64 := Nat.le_mul_of_pos_right _ hp
  generalize Cap = cp at *
  generalize F2 = f at *
  generalize 72057594037927936 * f * 2 ^ 64 = q at *
  refine ⟨by omega, by omega, by omega, by omega, rfl⟩
theorem mRd2_zero (w : World) (base : Nat) : mRd2.R w base 0 [.bool false, .slice none 0 0, .int .i64 0] :=
  ⟨false, 0, 0, _, rfl, mRd_nil _ _ _ _, fun h => absurd rfl h, by omega, by rw [Nat.zero_mul, sg_zero]⟩
theorem wstep {w W : World} {base : Nat} {X : Int} {z0 z1 z2 x0 x1 x2 : Value} {cs4 : List Value} (hW : Below w.heap.size w W) (h4 : Blk W w.heap.size 72 cs4) (h5 : Blk W (w.heap.size + 1) 72 [z0, z1, z2]) (hr : mRd2.R W base X [x0, x1, x2]) (hbase : base ≤ w.heap.size) :
    Below w.heap.size w (((W.setCell ⟨w.heap.size + 1, 0, none⟩ x0).setCell ⟨w.heap.size + 1, 1, none⟩ x1).setCell ⟨w.heap.size + 1, 2, none⟩ x2) ∧ Blk (((W.setCell ⟨w.heap.size + 1, 0, none⟩ x0).setCell ⟨w.heap.size + 1, 1, none⟩ x1).setCell ⟨w.heap.size + 1, 2, none⟩ x2) w.heap.size 72 cs4 ∧
      Blk (((W.setCell ⟨w.heap.size + 1, 0, none⟩ x0).setCell ⟨w.heap.size + 1, 1, none⟩ x1).setCell ⟨w.heap.size + 1, 2, none⟩ x2) (w.heap.size + 1) 72 [x0, x1, x2] ∧ mRd2.R (((W.setCell ⟨w.heap.size + 1, 0, none⟩ x0).setCell ⟨w.heap.size + 1, 1, none⟩ x1).setCell ⟨w.heap.size + 1, 2, none⟩ x2) base X [x0, x1, x2] := by
  obtain ⟨g1, g2, g3⟩ := set3 (base := base) (B := w.heap.size) (E := [113]) (w0 := w) x0 x1 x2 h5 (by omega) (by decide) (by omega) hW
  have hne : w.heap.size ≠ w.heap.size + 1 := by omega
  exact ⟨g3, ((h4.far (p := ⟨w.heap.size + 1, 0, none⟩) hne _).far (p := ⟨w.heap.size + 1, 1, none⟩) hne _).far (p := ⟨w.heap.size + 1, 2, none⟩) hne _, g1, mRd2.keep hr g2⟩
set_option maxHeartbeats 4000000 in
set_option maxRecDepth 100000 in
theorem weighs_calls (A B : Option Addr) (a l : List Nat) (n m ca cb t1 t2 base : Nat) (w : World) (hn : a.length = n) (hm : l.length = m) (hA : nRd.Row t1 w base A (a.map fv)) (hB : nRd.Row t2 w base B (l.map fv))
    (haf : a.all fin = true) (hlf : l.all fin = true) (hle : m ≤ n) (hm2 : m ≤ 256) (hn2 : n ≤ 1099511627776) (hbase : base ≤ w.heap.size) :
    Calls Tryz.prog 34 #[.slice A n ca, .slice B m cb] w fun e w' => ∃ cs, e = .returned (.agg cs.toArray) ∧ mRd2.R w' base (dotS a l m) cs ∧ Below w.heap.size w w' := by
  subst hn hm
  have HA := Lib.hid (fun W (hW : Below w.heap.size w W) => (show nRd.Row t1 W base A (a.map fv) from hA.below hW))
  have HB := Lib.hid (fun W (hW : Below w.heap.size w W) => (show nRd.Row t2 W base B (l.map fv) from hB.below hW))
  have HF := Lib.hid (And.intro haf hlf)
  have HW0 := Lib.hid (below_new (below_new (Below.refl w.heap.size w) (.cells #[.bool false, .slice none 0 0, .int .i64 0] 72)) (.cells #[.bool false, .slice none 0 0, .int .i64 0] 72))
  have HB40 := Lib.hid ((Blk.new w #[.bool false, .slice none 0 0, .int .i64 0] 72).alloc (.cells #[.bool false, .slice none 0 0, .int .i64 0] 72))
  have HB50 := Lib.hid (blk_new' (w.alloc (.cells #[.bool false, .slice none 0 0, .int .i64 0] 72)) (w.heap.size + 1) (by simp) #[.bool false, .slice none 0 0, .int .i64 0] 72)
  clear hA hB haf hlf
  go_enter Tryz.func34, Tryz.ntmps34
  go_wp2
  go_loopw [6] (fun iv wr => ∃ (k : Nat) (neg : Bool) (A2 : Option Addr) (n2 c2 : Nat) (ex : Int), k ≤ l.length ∧ iv = .int .i64 k ∧ Hid (Below w.heap.size w wr) ∧ Hid (Blk wr w.heap.size 72 [.bool false, .slice none 0 0, .int .i64 0]) ∧ Hid (Blk wr (w.heap.size + 1) 72 [.bool neg, .slice A2 n2 c2, .int .i64 ex]) ∧ Hid (mRd2.R wr base (dotS a l k) [.bool neg, .slice A2 n2 c2, .int .i64 ex])) (fun iv _ => l.length - (intOf iv).toNat)
  case atStart => exact ⟨0, false, none, 0, 0, 0, by omega, rfl, HW0.out, HB40.out, HB50.out, mRd2_zero _ _⟩
  case round =>
    obtain ⟨k, neg, A2, n2, c2, ex, hk, rfl, hW, hB4, hB5, hS⟩ := hrel
    by_cases hlt : k < l.length
    · obtain ⟨pa, na, Aa, la, ka, ea, rfl, ra, a0, a1, a2⟩ := nat_elem (HA.out wr hW.out) (i := k) (by rw [List.length_map]; omega)
      obtain ⟨pb, nb, Ab, lb, kb, eb, rfl, rb, b0, b1, b2⟩ := nat_elem (HB.out wr hW.out) (i := k) (by rw [List.length_map]; omega)
      have hi1 : (k : Int) < (l.length : Int) := by omega
      have hi2 : (k : Int) < (a.length : Int) := by omega
      have hi3 : (0 : Int) ≤ (k : Int) := by omega
      obtain ⟨xa, hxa⟩ : ∃ x, (a.map fv).getD k 0 = x := ⟨_, rfl⟩
      obtain ⟨xb, hxb⟩ : ∃ x, (l.map fv).getD k 0 = x := ⟨_, rfl⟩
      rw [hxa] at ra
      rw [hxb] at rb
      have HX : Hid (xa.natAbs < 2 ^ CapL ∧ xb.natAbs < 2 ^ CapL ∧ (xa * xb).natAbs < 2 ^ CapL ∧ (dotS a l k).natAbs < 2 ^ CapL ∧ dotS a l k + xa * xb = dotS a l (k + 1)) := weigh_bd HF.out.1 HF.out.2 hle hm2 hlt hxa hxb
      have hbs := Nat.le_trans hbase hW.out.size
      have HT := Lib.hid (fun W (hW : Below wr.heap.size wr W) => times_o 1074 1074 base xa xb _ _ W (Nat.le_trans hbs hW.size) (Rd.below _ ra hW) (Rd.below _ rb hW) HX.out.1 HX.out.2.1 (by decide) (by decide))
      have HP := Lib.hid (fun W ct (hW : Below wr.heap.size wr W) (hr : mRd2.R W base (xa * xb) ct) => plus_o 2148 base (dotS a l k) (xa * xb) _ ct W (Nat.le_trans hbs hW.size) (Rd.below _ hS.out hW) hr HX.out.2.2.2.1 HX.out.2.2.1 (by decide))
      obtain ⟨s0, s1, s2⟩ : wr.cell? ⟨w.heap.size + 1, 0, none⟩ = some (.bool neg) ∧ wr.cell? ⟨w.heap.size + 1, 1, none⟩ = some (.slice A2 n2 c2) ∧ wr.cell? ⟨w.heap.size + 1, 2, none⟩ = some (.int .i64 ex) := ⟨hB5.out.cell 0, hB5.out.cell 1, hB5.out.cell 2⟩
      clear ra rb hxa hxb
      go_wp2
      go_region_with (first
        | (go_at_call 27; refine (HT.out _ (by repeat (first | exact Below.refl _ _ | (with_reducible apply below_drewN) | (with_reducible apply Below.drew)))).mono ?_; rintro e w2 ⟨nt, At, lt, kt, et, rfl, hrt, hWt⟩; have HW2 : Hid (Below wr.heap.size wr w2) := below_next (by repeat (first | exact Below.refl _ _ | (with_reducible apply below_drewN) | (with_reducible apply Below.drew))) hWt; have HRT := Lib.hid hrt; have HB2 := Lib.hid (Blk.below' hB5.out HW2.out); obtain ⟨q0, q1, q2⟩ : w2.cell? ⟨w.heap.size + 1, 0, none⟩ = some (.bool neg) ∧ w2.cell? ⟨w.heap.size + 1, 1, none⟩ = some (.slice A2 n2 c2) ∧ w2.cell? ⟨w.heap.size + 1, 2, none⟩ = some (.int .i64 ex) := ⟨HB2.out.cell 0, HB2.out.cell 1, HB2.out.cell 2⟩; clear hrt hWt)
        | (go_at_call 26; refine (HP.out _ _ (by repeat (first | exact HW2.out | (with_reducible apply below_drewN) | (with_reducible apply Below.drew))) (by repeat (first | exact HRT.out))).mono ?_; rintro e w3 ⟨np, Ap, lp, kp, ep, rfl, hrp, hWp⟩; have HW3 : Hid (Below wr.heap.size wr w3) := below_next (by repeat (first | exact HW2.out | (with_reducible apply below_drewN) | (with_reducible apply Below.drew))) hWp; have HRP := Lib.hid hrp; have HB3 := Lib.hid (Blk.below' hB5.out HW3.out); obtain ⟨p0, p1, p2⟩ : w3.cell? ⟨w.heap.size + 1, 0, none⟩ = some (.bool neg) ∧ w3.cell? ⟨w.heap.size + 1, 1, none⟩ = some (.slice A2 n2 c2) ∧ w3.cell? ⟨w.heap.size + 1, 2, none⟩ = some (.int .i64 ex) := ⟨HB3.out.cell 0, HB3.out.cell 1, HB3.out.cell 2⟩; have g0 := HB3.out.frozen 0; have g1 := HB3.out.frozen 1; have g2 := HB3.out.frozen 2; clear hrp hWp))
      all_goals (
        go_wp2
        go_roundw
        case rel => exact ⟨k + 1, np, Ap, lp, kp, ep, by omega, by go_num, (wstep (below_next hW.out HW3.out) (Blk.below' hB4.out HW3.out) HB3.out HRP.out hbase).1, (wstep (below_next hW.out HW3.out) (Blk.below' hB4.out HW3.out) HB3.out HRP.out hbase).2.1, (wstep (below_next hW.out HW3.out) (Blk.below' hB4.out HW3.out) HB3.out HRP.out hbase).2.2.1, by rw [← HX.out.2.2.2.2]; exact (wstep (below_next hW.out HW3.out) (Blk.below' hB4.out HW3.out) HB3.out HRP.out hbase).2.2.2⟩
        case measure => simp [intOf]; omega)
    · obtain rfl : k = l.length := by omega
      obtain ⟨s0, s1, s2⟩ : wr.cell? ⟨w.heap.size + 1, 0, none⟩ = some (.bool neg) ∧ wr.cell? ⟨w.heap.size + 1, 1, none⟩ = some (.slice A2 n2 c2) ∧ wr.cell? ⟨w.heap.size + 1, 2, none⟩ = some (.int .i64 ex) := ⟨hB5.out.cell 0, hB5.out.cell 1, hB5.out.cell 2⟩
      obtain ⟨r0, r1, r2⟩ : wr.cell? ⟨w.heap.size, 0, none⟩ = some (.bool false) ∧ wr.cell? ⟨w.heap.size, 1, none⟩ = some (.slice none 0 0) ∧ wr.cell? ⟨w.heap.size, 2, none⟩ = some (.int .i64 0) := ⟨hB4.out.cell 0, hB4.out.cell 1, hB4.out.cell 2⟩
      have f0 := hB4.out.frozen 0
      have f1 := hB4.out.frozen 1
      have f2 := hB4.out.frozen 2
      obtain ⟨g1, g2, g3⟩ := set3 (base := base) (B := w.heap.size) (E := [113]) (w0 := w) (.bool neg) (.slice A2 n2 c2) (.int .i64 ex) hB4.out hbase (by decide) (Nat.le_refl _) hW.out
      have HG := Lib.hid (And.intro g3 (mRd2.keep hS.out g2))
      obtain ⟨t0, t1, t2⟩ := three g1
      clear g1 g2 g3
      go_wp2
      refine bodyPost_ret (v := .agg #[.bool neg, .slice A2 n2 c2, .int .i64 ex]) (by simp [results, Tryz.results34, go_sem, t0, t1, t2]) rfl ⟨[.bool neg, .slice A2 n2 c2, .int .i64 ex], rfl, HG.out.2, HG.out.1⟩
end Go.Proofs.YtcfejobdgiiihaaGreatDoor

namespace Go.Proofs.YtcfejobdgiiihaaGreatDoor
open Go.RowKit

set_option maxHeartbeats 2000000 in
set_option maxRecDepth 100000 in
theorem same10_calls (A B : Option Addr) (xs ys : List Nat) (n m cx cy t1 t2 b1 b2 : Nat) (w : World) (hn : xs.length = n) (hm : ys.length = m) (hA : f64.Row t1 w b1 A xs) (hB : u64.Row t2 w b2 B ys) (hx : n ≤ 17592186044416) (hy : m ≤ 17592186044416) :
    Calls Tryz.prog 93 #[.slice A n cx, .slice B m cy] w fun e w' => e = .returned (.bool (decide (xs = ys))) ∧ ∃ q, w' = w.drewN q := by
  subst hn hm
  by_cases h : xs.length = ys.length
  · have HE := Lib.hid h
    have hg : ((xs.length : Int) != (ys.length : Int)) = false := by rw [h]; simp
    clear h
    go_enter Tryz.func93, Tryz.ntmps93
    go_wp2
    go_loopw [5] (fun i wr => ∃ (k : Nat), i = .int .i64 k ∧ k ≤ xs.length ∧ Hid (xs.take k = ys.take k) ∧ Hid (∃ q, wr = w.drewN q)) (fun i _ => xs.length - (intOf i).toNat)
    case atStart => exact ⟨0, rfl, Nat.zero_le _, rfl, 0, rfl⟩
    case round =>
      obtain ⟨k, rfl, hk, hI, hQ⟩ := hrel
      obtain ⟨q, rfl⟩ := hQ.out
      by_cases hlt : k < xs.length
      · have hD : Below w.heap.size w (w.drewN q) := below_drewN (Below.refl _ _) q
        obtain ⟨a, x, rfl, hca, hxb, hxe⟩ := f64at hA hlt
        obtain ⟨b, y, rfl, hcb, hyb, hye⟩ := u64at hB (i := k) (by have := HE.out; omega)
        have hlk : (k : Int) < (ys.length : Int) := by have := HE.out; omega
        have hlx : (k : Int) < (xs.length : Int) := by omega
        have hl0 : (0 : Int) ≤ (k : Int) := by omega
        have HBT := Lib.hid (fun W => apibits_calls x W)
        by_cases hxy : x = y
        · subst hxy
          go_wp2
          go_quiet ((go_at_call 18; first | exact quiet_sum ((HBT.out _).mono (fun _ _ h => ⟨h.1, 0, h.2.symm.trans (by simp)⟩)) | exact Calls.quiet_of_same ((HBT.out _).mono (fun _ _ h => ⟨h.1, h.2.symm⟩))))
          go_wp2
          go_roundw
          case rel => exact ⟨k + 1, by go_num, by omega, take_eq_step hI.out hlt (by have := HE.out; omega) hxe.out hye.out, ⟨_, rfl⟩⟩
          case measure => simp [intOf]; omega
        · have hne := Lib.hid hxy
          have hneb : ((x : Int) != (y : Int)) = true := by simp; omega
          clear hxy
          go_wp2
          go_quiet ((go_at_call 18; first | exact quiet_sum ((HBT.out _).mono (fun _ _ h => ⟨h.1, 0, h.2.symm.trans (by simp)⟩)) | exact Calls.quiet_of_same ((HBT.out _).mono (fun _ _ h => ⟨h.1, h.2.symm⟩))))
          go_wp2
          go_ret
          exact ⟨by rw [ne_of_getD hxe.out hye.out hne.out]; rfl, _, drewN_drewN _ _ _⟩
      · obtain rfl : k = xs.length := by omega
        go_wp2
        go_ret
        exact ⟨by rw [eq_of_takes hI.out HE.out.symm]; rfl, q, rfl⟩
  · have hg : ((xs.length : Int) != (ys.length : Int)) = true := by simp; omega
    have HN : Hid (decide (xs = ys) = false) := decide_eq_false (by rintro rfl; exact h rfl)
    go_enter Tryz.func93, Tryz.ntmps93
    go_wp2
    go_ret
    exact ⟨by rw [HN.out]; rfl, 0, rfl⟩

end Go.Proofs.YtcfejobdgiiihaaGreatDoor

namespace Go.Proofs.YtcfejobdgiiihaaGreatDoor
open Go.RowKit

theorem eq_neq (n : Nat) : ((n : Int) != (n : Int)) = false := by simp
set_option maxHeartbeats 4000000 in
set_option maxRecDepth 100000 in
theorem same75_calls (z : Zn) (cs1 cs2 : List Value) (w : World) (b1 b2 : Nat) (h1 : zRd.R w b1 z cs1) (h2 : rzRd.R w b2 z cs2) :
    Calls Tryz.prog 75 #[.agg cs1.toArray, .agg cs2.toArray] w fun e w' => e = .returned (.bool true) ∧ Below w.heap.size w w' := by
  obtain ⟨AC, AI, AG, AR, cC, cI, cG, cR, rfl, hr, hl⟩ := h1
  obtain ⟨BC, BI, BG, BR, dC, dI, dG, dR, rfl, hr', hl'⟩ := h2
  obtain ⟨N, C, Ids, G, R, bad⟩ := z
  have HSC := Lib.hid (fun W (hW : Below w.heap.size w W) => same10_calls AC BC C C C.length C.length cC dC 47 50 b1 b2 W rfl rfl (hr.C.below hW) (hr'.C.below hW) hl.c.2 hl.c.2)
  have HSR := Lib.hid (fun W (hW : Below w.heap.size w W) => same10_calls AR BR R R R.length R.length cR dR 47 50 b1 b2 W rfl rfl (hr.R.below hW) (hr'.R.below hW) hl.r.2 hl.r.2)
  rw [show decide (C = C) = true from decide_eq_true rfl] at HSC
  rw [show decide (R = R) = true from decide_eq_true rfl] at HSR
  have HI1 := Lib.hid (fun W (hW : Below w.heap.size w W) => (show i64.Row 3 W b1 AI Ids from hr.I.below hW))
  have HI2 := Lib.hid (fun W (hW : Below w.heap.size w W) => (show i64.Row 3 W b2 BI Ids from hr'.I.below hW))
  have HG1 := Lib.hid (fun W (hW : Below w.heap.size w W) => (show (bsl 47 f64).Row 22 W b1 AG G from hr.G.below hW))
  have HG2 := Lib.hid (fun W (hW : Below w.heap.size w W) => (show (bsl 50 u64).Row 33 W b2 BG G from hr'.G.below hW))
  have hil : Ids.length ≤ 17592186044416 := hl.i.2
  have hgl : G.length ≤ 17592186044416 := Nat.le_trans hl.g.2 (by decide)
  have hcl : C.length ≤ 17592186044416 := hl.c.2
  have hrl : R.length ≤ 17592186044416 := hl.r.2
  simp only at *
  have HW := Lib.hid (below_new (below_new (Below.refl w.heap.size w) (.cells #[.int .i64 N, .slice AC C.length cC, .slice AI Ids.length cI, .slice AG G.length cG, .slice AR R.length cR, .bool bad] 42)) (.cells #[.int .i64 N, .slice BC C.length dC, .slice BI Ids.length dI, .slice BG G.length dG, .slice BR R.length dR, .bool bad] 44))
  have HB1 := Lib.hid ((Blk.new w #[.int .i64 N, .slice AC C.length cC, .slice AI Ids.length cI, .slice AG G.length cG, .slice AR R.length cR, .bool bad] 42).alloc (.cells #[.int .i64 N, .slice BC C.length dC, .slice BI Ids.length dI, .slice BG G.length dG, .slice BR R.length dR, .bool bad] 44))
  have HB2 := Lib.hid (blk_new' (w.alloc (.cells #[.int .i64 N, .slice AC C.length cC, .slice AI Ids.length cI, .slice AG G.length cG, .slice AR R.length cR, .bool bad] 42)) (w.heap.size + 1) (by simp) #[.int .i64 N, .slice BC C.length dC, .slice BI Ids.length dI, .slice BG G.length dG, .slice BR R.length dR, .bool bad] 44)
  have hbb : ∀ b : Bool, (b != b) = false := fun b => by cases b <;> rfl
  have hnn : (N != N) = false := by simp
  have e1 := eq_neq Ids.length
  have e2 := eq_neq G.length
  clear hr hr' hl hl'
  go_enter Tryz.func75, Tryz.ntmps75
  go_wp2_with fail
  refine (HSC.out _ HW.out).mono ?_
  rintro e w1 ⟨rfl, q1, rfl⟩
  go_wp2_with fail
  refine (HSR.out _ (below_drewN HW.out q1)).mono ?_
  rintro e w1 ⟨rfl, q2, rfl⟩
  go_wp2
  clear hbb hnn e1 e2 HSC HSR
  go_loopw [5] (fun iv wr => ∃ k : Nat, k ≤ Ids.length ∧ iv = .int .i64 k ∧ Hid (Below w.heap.size w wr) ∧ Hid (Blk wr w.heap.size 42 [.int .i64 N, .slice AC C.length cC, .slice AI Ids.length cI, .slice AG G.length cG, .slice AR R.length cR, .bool bad]) ∧ Hid (Blk wr (w.heap.size + 1) 44 [.int .i64 N, .slice BC C.length dC, .slice BI Ids.length dI, .slice BG G.length dG, .slice BR R.length dR, .bool bad])) (fun iv _ => Ids.length - (intOf iv).toNat)
  case atStart => exact ⟨0, by omega, rfl, by simp only [Hid]; repeat (first | exact HW.out | (with_reducible apply below_drewN)), HB1.out, HB2.out⟩
  case round =>
    obtain ⟨k, hk, rfl, hW, hB1, hB2⟩ := hrel
    have c2 : wr.cell? ⟨w.heap.size, 2, none⟩ = some (.slice AI Ids.length cI) := hB1.out.cell 2
    have c2' : wr.cell? ⟨w.heap.size + 1, 2, none⟩ = some (.slice BI Ids.length dI) := hB2.out.cell 2
    by_cases hlt : k < Ids.length
    · obtain ⟨a, x, rfl, hca, hxb, hxe⟩ := i64at (HI1.out wr hW.out) hlt
      obtain ⟨b, y, rfl, hcb, hyb, hye⟩ := i64at (HI2.out wr hW.out) hlt
      obtain rfl : y = x := hye.out.symm.trans hxe.out
      have hlx : (k : Int) < (Ids.length : Int) := by omega
      have hl0 : (0 : Int) ≤ (k : Int) := by omega
      go_wp2
      go_quiet (fail)
      go_wp2
      go_roundw
      case rel => exact ⟨k + 1, by omega, by go_num, below_drewN hW.out _, hB1.out, hB2.out⟩
      case measure => simp [intOf]; omega
    · obtain rfl : k = Ids.length := by omega
      clear hlt
      have c3 : wr.cell? ⟨w.heap.size, 3, none⟩ = some (.slice AG G.length cG) := hB1.out.cell 3
      go_wp2
      clear c2 c2' c3
      go_loopw [6] (fun iv wr => ∃ k : Nat, k ≤ G.length ∧ iv = .int .i64 k ∧ Hid (Below w.heap.size w wr) ∧ Hid (Blk wr w.heap.size 42 [.int .i64 N, .slice AC C.length cC, .slice AI Ids.length cI, .slice AG G.length cG, .slice AR R.length cR, .bool bad]) ∧ Hid (Blk wr (w.heap.size + 1) 44 [.int .i64 N, .slice BC C.length dC, .slice BI Ids.length dI, .slice BG G.length dG, .slice BR R.length dR, .bool bad])) (fun iv _ => G.length - (intOf iv).toNat)
      case atStart => exact ⟨0, by omega, rfl, hW.out, hB1.out, hB2.out⟩
      case round =>
        obtain ⟨k, hk, rfl, hW, hB1, hB2⟩ := hrel
        have c3 : wr.cell? ⟨w.heap.size, 3, none⟩ = some (.slice AG G.length cG) := hB1.out.cell 3
        have c3' : wr.cell? ⟨w.heap.size + 1, 3, none⟩ = some (.slice BG G.length dG) := hB2.out.cell 3
        by_cases hlt : k < G.length
        · obtain ⟨a, A2, x, ca, rfl, hca, hxe, hlc, hlC, hra⟩ := bsl_at (HG1.out wr hW.out) hlt
          obtain ⟨b, B2, y, cb, rfl, hcb, hye, hld, hlD, hrb⟩ := bsl_at (HG2.out wr hW.out) hlt
          obtain rfl : y = x := hye.out.symm.trans hxe.out
          have hlx : (k : Int) < (G.length : Int) := by omega
          have hl0 : (0 : Int) ≤ (k : Int) := by omega
          have HS := Lib.hid (fun W (hW : Below wr.heap.size wr W) => same10_calls A2 B2 y y y.length y.length ca cb 47 50 b1 b2 W rfl rfl (hra.below hW) (hrb.below hW) hlC hlC)
          rw [show decide (y = y) = true from decide_eq_true rfl] at HS
          clear hra hrb
          go_wp2
          go_quiet ((go_at_call 93; first | exact quiet_sum (HS.out _ (below_drewN (Below.refl _ _) _)) | exact Calls.quiet_of (HS.out _ (below_drewN (Below.refl _ _) _))))
          go_wp2
          go_roundw
          case rel => exact ⟨k + 1, by omega, by go_num, below_drewN hW.out _, hB1.out, hB2.out⟩
          case measure => simp [intOf]; omega
        · obtain rfl : k = G.length := by omega
          go_wp2
          go_ret
          exact ⟨rfl, hW.out⟩
set_option maxHeartbeats 4000000 in
set_option maxRecDepth 100000 in
theorem sameprop_calls (p : Pr) (cs1 cs2 : List Value) (w : World) (b1 b2 : Nat) (h1 : rpRd.R w b1 p cs1) (h2 : rpRd.R w b2 p cs2) :
    Calls Tryz.prog 37 #[.agg cs1.toArray, .agg cs2.toArray] w fun e w' => e = .returned (.bool true) ∧ Below w.heap.size w w' := by
  obtain ⟨AC, AG, AL, cC, cG, cL, rfl, hr, hl⟩ := h1
  obtain ⟨BC, BG, BL, dC, dG, dL, rfl, hr', hl'⟩ := h2
  obtain ⟨C, G, T, L, K, D, S⟩ := p
  have HSC := Lib.hid (fun W (hW : Below w.heap.size w W) => samelist_calls AC BC C C C.length C.length cC dC 50 50 b1 b2 W rfl rfl (hr.C.below hW) (hr'.C.below hW) hl.c.2 hl.c.2)
  have HSG := Lib.hid (fun W (hW : Below w.heap.size w W) => samelists_calls AG BG G G G.length G.length cG dG 33 33 50 50 b1 b2 W rfl rfl (hr.G.below hW) (hr'.G.below hW) (Nat.le_trans hl.g.2 (by decide)) (Nat.le_trans hl.g.2 (by decide)))
  have HSL := Lib.hid (fun W (hW : Below w.heap.size w W) => samelists_calls AL BL L L L.length L.length cL dL 33 33 50 50 b1 b2 W rfl rfl (hr.L.below hW) (hr'.L.below hW) (Nat.le_trans hl.l.2 (by decide)) (Nat.le_trans hl.l.2 (by decide)))
  rw [show decide (C = C) = true from decide_eq_true rfl] at HSC
  rw [show decide (G = G) = true from decide_eq_true rfl] at HSG
  rw [show decide (L = L) = true from decide_eq_true rfl] at HSL
  simp only at *
  have HW := Lib.hid (below_new (below_new (Below.refl w.heap.size w) (.cells #[.slice AC C.length cC, .slice AG G.length cG, .int .i64 T, .slice AL L.length cL, .int .i64 K, .int .i64 D, .int .i64 S] 35)) (.cells #[.slice BC C.length dC, .slice BG G.length dG, .int .i64 T, .slice BL L.length dL, .int .i64 K, .int .i64 D, .int .i64 S] 35))
  have e1 : (T == T) = true := by simp
  have e2 : (K == K) = true := by simp
  have e3 : (D == D) = true := by simp
  have e4 : (S == S) = true := by simp
  clear hr hr' hl hl'
  go_enter Tryz.func37, Tryz.ntmps37
  go_wp2_with fail
  refine (HSC.out _ HW.out).mono ?_
  rintro e w1 ⟨rfl, q1, rfl⟩
  go_wp2_with fail
  refine (HSG.out _ (below_drewN HW.out q1)).mono ?_
  rintro e w1 ⟨rfl, q2, rfl⟩
  go_wp2_with fail
  refine (HSL.out _ (by repeat (first | exact HW.out | (with_reducible apply below_drewN)))).mono ?_
  rintro e w1 ⟨rfl, q3, rfl⟩
  go_wp2
  go_ret
  exact ⟨rfl, by repeat (first | exact HW.out | (with_reducible apply below_drewN))⟩
end Go.Proofs.YtcfejobdgiiihaaGreatDoor

namespace Go.Proofs.YtcfejobdgiiihaaGreatDoor
open Go.RowKit

/-- a real at a finer scale -/
theorem num_raise {K J : Nat} {w : World} {base : Nat} {X : Int} {cs : List Value} (h : (numRd K).R w base X cs) : (numRd (K + J)).R w base (X * (2 ^ J : Nat)) cs := by
  obtain ⟨neg, m, e, v, rfl, hm, he, heb, rfl⟩ := h
  refine ⟨neg, m, e, v, rfl, hm, fun h => by have := he h; omega, heb, ?_⟩
  by_cases h0 : m = 0
  · subst h0; simp [sg_zero]
  · have h1 := he h0
    rw [show (e + (K + J : Nat) : Int).toNat = (e + K).toNat + J from by omega, Nat.pow_add, ← Nat.mul_assoc]
    generalize m * 2 ^ (e + K).toNat = q
    cases neg
    · simp [sg]
    · simp [sg, Int.neg_mul]
/-- the reference's real zonotope -/
structure RRows (w : World) (base : Nat) (z : Zn) (AC AI AG AR : Option Addr) : Prop where
  C : nRd.Row 72 w base AC (z.C.map fv)
  I : i64.Row 3 w base AI z.Ids
  G : (bsl 72 nRd).Row 62 w base AG (z.G.map (fun g => g.map fv))
  R : nRd.Row 72 w base AR (z.R.map fv)
def realCs (z : Zn) (AC AI AG AR : Option Addr) (cC cI cG cR : Nat) : List Value := [.int .i64 z.N, .slice AC z.C.length cC, .slice AI z.Ids.length cI, .slice AG z.G.length cG, .slice AR z.R.length cR]
theorem RRows.below {w w' : World} {base : Nat} {z : Zn} {AC AI AG AR : Option Addr} (h : RRows w base z AC AI AG AR) (hW : Below w.heap.size w w') : RRows w' base z AC AI AG AR :=
  ⟨h.C.below hW, h.I.below hW, h.G.below hW, h.R.below hW⟩
end Go.Proofs.YtcfejobdgiiihaaGreatDoor

namespace Go.Proofs.YtcfejobdgiiihaaGreatDoor
open Go.RowKit

/-! ### ref10.Reals -/
theorem Rd.Own.keep {α : Type} {d : Rd α} {t : Nat} {w w' : World} {b0 base : Nat} {v : Value} {xs : List α} {E : List Nat} (h : d.Own t w b0 base v xs) (hk : Keeps base E w w') (ht : t ∈ E) (hE : ∀ q, q ∈ d.E → q ∈ E) : d.Own t w' b0 base v xs := by
  obtain ⟨css, hl, ho, hr⟩ := h
  refine ⟨css, hl, ⟨ho.1, ?_⟩, fun i x c h1 h2 => d.keep (hr i x c h1 h2) (hk.sub hE)⟩
  rcases ho.2 with hn | ⟨g, cap, cur, rfl, hg, hh, r⟩
  · exact .inl hn
  · exact .inr ⟨g, cap, cur, rfl, hg, (hk.2 g (Array.getElem?_eq_some_iff.1 hh).1 (.inr ⟨cur, t, ht, hh⟩)).trans hh, r⟩
def realB (z : Zn) : Bool := !z.bad && goodB z
theorem five {w : World} {b t : Nat} {x0 x1 x2 x3 x4 : Value} (h : Blk w b t [x0, x1, x2, x3, x4]) :
    w.cell? ⟨b, 0, none⟩ = some x0 ∧ w.cell? ⟨b, 1, none⟩ = some x1 ∧ w.cell? ⟨b, 2, none⟩ = some x2 ∧ w.cell? ⟨b, 3, none⟩ = some x3 ∧ w.cell? ⟨b, 4, none⟩ = some x4 :=
  ⟨h.cell 0, h.cell 1, h.cell 2, h.cell 3, h.cell 4⟩
abbrev zc5 : List Value := [.int .i64 0, .slice none 0 0, .slice none 0 0, .slice none 0 0, .slice none 0 0]
theorem realB_no {z : Zn} (h : z.bad = true ∨ z.N < 1 ∨ 256 < z.N ∨ z.Ids.length ≠ z.G.length ∨ rowB z.C z.N = false ∨ rowB z.R z.N = false) : realB z = false := by
  unfold realB goodB
  rcases h with h | h | h | h | h | h
  · rw [h]; rfl
  · rw [decide_eq_false (show ¬ 1 ≤ z.N by omega)]; simp
  · rw [decide_eq_false (show ¬ z.N ≤ 256 by omega)]; simp
  · rw [decide_eq_false h]; simp
  · rw [h]; simp
  · rw [h]; simp
set_option maxHeartbeats 2000000 in
set_option maxRecDepth 100000 in
theorem reals_early (z : Zn) (cs : List Value) (w : World) (b1 : Nat) (h : rzRd.R w b1 z cs) (hb : z.bad = true ∨ z.N < 1 ∨ 256 < z.N ∨ z.Ids.length ≠ z.G.length) :
    Calls Tryz.prog 24 #[.agg cs.toArray] w fun e w' => e = .returned (.tuple #[.agg zc5.toArray, .bool false]) ∧ Below w.heap.size w w' := by
  obtain ⟨AC, AI, AG, AR, cC, cI, cG, cR, rfl, hr, hl⟩ := h
  obtain ⟨N, C, Ids, G, R, bad⟩ := z
  have h1 : Ids.length ≤ 17592186044416 := hl.i.2
  have h2 : G.length ≤ 17592186044416 := Nat.le_trans hl.g.2 (by decide)
  simp only at hb ⊢
  clear hr hl
  rcases hb with rfl | hb
  · go_enter Tryz.func24, Tryz.ntmps24
    go_wp2
    refine bodyPost_ret (v := .tuple #[.agg zc5.toArray, .bool false]) (by simp [results, Tryz.results24, go_sem]) rfl ⟨rfl, below_new (below_new (Below.refl _ _) _) _⟩
  · cases bad
    rotate_left
    · clear hb
      go_enter Tryz.func24, Tryz.ntmps24
      go_wp2
      refine bodyPost_ret (v := .tuple #[.agg zc5.toArray, .bool false]) (by simp [results, Tryz.results24, go_sem]) rfl ⟨rfl, below_new (below_new (Below.refl _ _) _) _⟩
    · by_cases hn1 : N < 1
      · clear hb
        go_enter Tryz.func24, Tryz.ntmps24
        go_wp2
        refine bodyPost_ret (v := .tuple #[.agg zc5.toArray, .bool false]) (by simp [results, Tryz.results24, go_sem]) rfl ⟨rfl, below_new (below_new (Below.refl _ _) _) _⟩
      · by_cases hn2 : 256 < N
        · clear hb
          go_enter Tryz.func24, Tryz.ntmps24
          go_wp2
          refine bodyPost_ret (v := .tuple #[.agg zc5.toArray, .bool false]) (by simp [results, Tryz.results24, go_sem]) rfl ⟨rfl, below_new (below_new (Below.refl _ _) _) _⟩
        · have hb' : Ids.length ≠ G.length := by
            rcases hb with h | h | h
            · exact absurd h hn1
            · exact absurd h hn2
            · exact h
          have e1 : ((Ids.length : Int) != (G.length : Int)) = true := by simp; omega
          clear hb hb'
          go_enter Tryz.func24, Tryz.ntmps24
          go_wp2
          refine bodyPost_ret (v := .tuple #[.agg zc5.toArray, .bool false]) (by simp [results, Tryz.results24, go_sem]) rfl ⟨rfl, below_new (below_new (Below.refl _ _) _) _⟩
end Go.Proofs.YtcfejobdgiiihaaGreatDoor
