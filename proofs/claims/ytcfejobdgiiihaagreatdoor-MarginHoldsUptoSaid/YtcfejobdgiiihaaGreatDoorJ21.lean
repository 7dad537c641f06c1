/- Walks and plain laws of this seat's functions, part 21: C7 C8 C9 C10 C15 C16 C17 C18. -/
import Derived.Deep.RegionLaw
import Derived.Test.YtcfejobdgiiihaaGreatDoorJ14
import Derived.Test.YtcfejobdgiiihaaGreatDoorJ18
set_option linter.unusedVariables false
set_option linter.unusedSimpArgs false
namespace Go.Proofs.YtcfejobdgiiihaaGreatDoor
open Go.RowKit

abbrev mRd2 : Rd Int := numRd 2148
theorem addr_succ (p : Addr) (n : Nat) (h : 0 < n) : (⟨p.block, p.off + n, none⟩ : Addr) = p.add n := by
  unfold Addr.add; rw [if_neg (by omega)]
theorem nat_elem {K t : Nat} {w : World} {base : Nat} {A : Option Addr} {xs : List Int} (h : (numRd K).Row t w base A xs) {i : Nat} (hi : i < xs.length) :
    ∃ (a : Addr) (neg : Bool) (A2 : Option Addr) (n c : Nat) (e : Int), A = some a ∧ (numRd K).R w base (xs.getD i 0) [.bool neg, .slice A2 n c, .int .i64 e] ∧
      w.cell? (a.add (i * 3)) = some (.bool neg) ∧ w.cell? ⟨(a.add (i * 3)).block, (a.add (i * 3)).off + 1, none⟩ = some (.slice A2 n c) ∧ w.cell? ⟨(a.add (i * 3)).block, (a.add (i * 3)).off + 2, none⟩ = some (.int .i64 e) := by
  obtain ⟨a, cs, ha, _, _, hr, hc⟩ := h i xs[i] (by simp [hi])
  have hr0 := hr
  obtain ⟨neg, m, e, v, rfl, ⟨ys, A2, c, hv, _⟩, _⟩ := hr
  cases hv
  refine ⟨a, neg, A2, ys.length, c, e, ha, ?_, hc 0 _ rfl, by rw [addr_succ _ 1 (by decide), Addr.add_add]; exact hc 1 _ rfl, by rw [addr_succ _ 2 (by decide), Addr.add_add]; exact hc 2 _ rfl⟩
  rw [List.getD_eq_getElem?_getD, List.getElem?_eq_getElem hi]; exact hr0
theorem num_open {K : Nat} {w : World} {base : Nat} {X : Int} {cs : List Value} (h : (numRd K).R w base X cs) : ∃ neg A n c e, cs = [.bool neg, .slice A n c, .int .i64 e] := by
  obtain ⟨neg, m, e, v, rfl, ⟨ys, A2, c, hv, _⟩, _⟩ := h
  cases hv
  exact ⟨_, _, _, _, _, rfl⟩
def CapL : Nat := 4772
theorem times_o (K J base : Nat) (X Y : Int) (cx cy : List Value) (w : World) (hbase : base ≤ w.heap.size) (hx : (numRd K).R w base X cx) (hy : (numRd J).R w base Y cy)
    (hX : X.natAbs < 2 ^ CapL) (hY : Y.natAbs < 2 ^ CapL) (hK : K ≤ 1073741824) (hJ : J ≤ 1073741824) :
    Calls Tryz.prog 27 #[.agg cx.toArray, .agg cy.toArray] w fun r w' => ∃ neg A n c e, r = .returned (.agg #[.bool neg, .slice A n c, .int .i64 e]) ∧ (numRd (K + J)).R w' base (X * Y) [.bool neg, .slice A n c, .int .i64 e] ∧ Below w.heap.size w w' := by
  refine (times_num K J base CapL X Y cx cy w hbase hx hy hX hY (by decide) hK hJ).mono ?_
  rintro r w' ⟨cs, rfl, hr, hW⟩
  obtain ⟨neg, A, n, c, e, rfl⟩ := num_open hr
  exact ⟨_, _, _, _, _, rfl, hr, hW⟩
theorem plus_o (K base : Nat) (X Y : Int) (cx cy : List Value) (w : World) (hbase : base ≤ w.heap.size) (hx : (numRd K).R w base X cx) (hy : (numRd K).R w base Y cy)
    (hX : X.natAbs < 2 ^ CapL) (hY : Y.natAbs < 2 ^ CapL) (hK : K ≤ 1073741824) :
    Calls Tryz.prog 26 #[.agg cx.toArray, .agg cy.toArray] w fun r w' => ∃ neg A n c e, r = .returned (.agg #[.bool neg, .slice A n c, .int .i64 e]) ∧ (numRd K).R w' base (X + Y) [.bool neg, .slice A n c, .int .i64 e] ∧ Below w.heap.size w w' := by
  refine (plus_num K base CapL X Y cx cy w hbase hx hy hX hY (by decide) hK).mono ?_
  rintro r w' ⟨cs, rfl, hr, hW⟩
  obtain ⟨neg, A, n, c, e, rfl⟩ := num_open hr
  exact ⟨_, _, _, _, _, rfl, hr, hW⟩
theorem three {w : World} {b t : Nat} {x0 x1 x2 : Value} (h : Blk w b t [x0, x1, x2]) : w.cell? ⟨b, 0, none⟩ = some x0 ∧ w.cell? ⟨b, 1, none⟩ = some x1 ∧ w.cell? ⟨b, 2, none⟩ = some x2 := ⟨h.cell 0, h.cell 1, h.cell 2⟩
set_option exponentiation.threshold 6000 in
theorem cap_eqL : Cap = 2 ^ CapL := rfl
theorem getD_map_fv {a : List Nat} {k : Nat} (h : k < a.length) : (a.map fv).getD k 0 = fv (a.getD k 0) := by
  rw [List.getD_eq_getElem?_getD, List.getD_eq_getElem?_getD, List.getElem?_map, List.getElem?_eq_getElem h]; rfl
set_option exponentiation.threshold 6000 in
theorem weigh_bd {a l : List Nat} (haf : a.all fin = true) (hlf : l.all fin = true) (hle : l.length ≤ a.length) (hm2 : l.length ≤ 256) {k : Nat} (hk : k < l.length) {xa xb : Int} (hxa : (a.map fv).getD k 0 = xa) (hxb : (l.map fv).getD k 0 = xb) :
    xa.natAbs < 2 ^ CapL ∧ xb.natAbs < 2 ^ CapL ∧ (xa * xb).natAbs < 2 ^ CapL ∧ (dotS a l k).natAbs < 2 ^ CapL ∧ dotS a l k + xa * xb = dotS a l (k + 1) := by
  rw [getD_map_fv (by omega)] at hxa
  rw [getD_map_fv hk] at hxb
  have h1 := fv_le_max (all_getD haf (show k < _ by omega))
  have h2 := fv_le_max (all_getD hlf hk)
  have h3 := natAbs_mul_le h1 h2
  have h4 := dotS_bd haf hlf k (by omega) (by omega)
  rw [show fMax * fMax = F2 from rfl] at h3
  rw [← hxa, ← hxb, ← cap_eqL]
  have hc := F2_cap
  have hp : 0 < 2 ^ 64 := by decide
  have hf : fMax ≤ F2 := Nat.le_mul_of_pos_left _ (by unfold fMax; exact Nat.mul_pos (by decide) (Nat.pow_pos (by decide)))
  have e1 : k * F2 ≤ 256 * F2 := Nat.mul_le_mul_right _ (by omega)
  have e2 : 72057594037927936 * F2 ≤ 72057594037927936 * F2 * 2 ^ 64 := Nat.le_mul_of_pos_right _ hp
  generalize Cap = cp at *
  generalize F2 = f at *
  generalize 72057594037927936 * f * 2 ^ 64 = q at *
  refine ⟨by omega, by omega, by omega, by omega, rfl⟩
theorem mRd2_zero (w : World) (base : Nat) : mRd2.R w base 0 [.bool false, .slice none 0 0, .int .i64 0] :=
  ⟨false, 0, 0, _, rfl, mRd_nil _ _ _ _, fun h => absurd rfl h, by omega, by rw [Nat.zero_mul, sg_zero]⟩
theorem wstep {w W : World} {base : Nat} {X : Int} {z0 z1 z2 x0 x1 x2 : Value} {cs4 : List Value} (hW : Below w.heap.size w W) (h4 : Blk W w.heap.size 72 cs4) (h5 : Blk W (w.heap.size + 1) 72 [z0, z1, z2]) (hr : mRd2.R W base X [x0, x1, x2]) (hbase : base ≤ w.heap.size) :
    Below w.heap.size w (((W.setCell ⟨w.heap.size + 1, 0, none⟩ x0).setCell ⟨w.heap.size + 1, 1, none⟩ x1).setCell ⟨w.heap.size + 1, 2, none⟩ x2) ∧ Blk (((W.setCell ⟨w.heap.size + 1, 0, none⟩ x0).setCell ⟨w.heap.size + 1, 1, none⟩ x1).setCell ⟨w.heap.size + 1, 2, none⟩ x2) w.heap.size 72 cs4 ∧
      Blk (((W.setCell ⟨w.heap.size + 1, 0, none⟩ x0).setCell ⟨w.heap.size + 1, 1, none⟩ x1).setCell ⟨w.heap.size + 1, 2, none⟩ x2) (w.heap.size + 1) 72 [x0, x1, x2] ∧ mRd2.R (((W.setCell ⟨w.heap.size + 1, 0, none⟩ x0).setCell ⟨w.heap.size + 1, 1, none⟩ x1).setCell ⟨w.heap.size + 1, 2, none⟩ x2) base X [x0, x1, x2] := by
  obtain ⟨g1, g2, g3⟩ := set3 (base := base) (B := w.heap.size) (E := [113]) (w0 := w) x0 x1 x2 h5 (by omega) (by decide) (by omega) hW
  have hne : w.heap.size ≠ w.heap.size + 1 := by omega
  exact ⟨g3, ((h4.far (p := ⟨w.heap.size + 1, 0, none⟩) hne _).far (p := ⟨w.heap.size + 1, 1, none⟩) hne _).far (p := ⟨w.heap.size + 1, 2, none⟩) hne _, g1, mRd2.keep hr g2⟩
set_option maxHeartbeats 4000000 in
set_option maxRecDepth 100000 in
theorem weighs_calls (A B : Option Addr) (a l : List Nat) (n m ca cb t1 t2 base : Nat) (w : World) (hn : a.length = n) (hm : l.length = m) (hA : nRd.Row t1 w base A (a.map fv)) (hB : nRd.Row t2 w base B (l.map fv))
    (haf : a.all fin = true) (hlf : l.all fin = true) (hle : m ≤ n) (hm2 : m ≤ 256) (hn2 : n ≤ 1099511627776) (hbase : base ≤ w.heap.size) :
    Calls Tryz.prog 34 #[.slice A n ca, .slice B m cb] w fun e w' => ∃ cs, e = .returned (.agg cs.toArray) ∧ mRd2.R w' base (dotS a l m) cs ∧ Below w.heap.size w w' := by
  subst hn hm
  have HA := Lib.hid (fun W (hW : Below w.heap.size w W) => (show nRd.Row t1 W base A (a.map fv) from hA.below hW))
  have HB := Lib.hid (fun W (hW : Below w.heap.size w W) => (show nRd.Row t2 W base B (l.map fv) from hB.below hW))
  have HF := Lib.hid (And.intro haf hlf)
  have HW0 := Lib.hid (below_new (below_new (Below.refl w.heap.size w) (.cells #[.bool false, .slice none 0 0, .int .i64 0] 72)) (.cells #[.bool false, .slice none 0 0, .int .i64 0] 72))
  have HB40 := Lib.hid ((Blk.new w #[.bool false, .slice none 0 0, .int .i64 0] 72).alloc (.cells #[.bool false, .slice none 0 0, .int .i64 0] 72))
  have HB50 := Lib.hid (blk_new' (w.alloc (.cells #[.bool false, .slice none 0 0, .int .i64 0] 72)) (w.heap.size + 1) (by simp) #[.bool false, .slice none 0 0, .int .i64 0] 72)
  clear hA hB haf hlf
  go_enter Tryz.func34, Tryz.ntmps34
  go_wp2
  go_loopw [6] (fun iv wr => ∃ (k : Nat) (neg : Bool) (A2 : Option Addr) (n2 c2 : Nat) (ex : Int), k ≤ l.length ∧ iv = .int .i64 k ∧ Hid (Below w.heap.size w wr) ∧ Hid (Blk wr w.heap.size 72 [.bool false, .slice none 0 0, .int .i64 0]) ∧ Hid (Blk wr (w.heap.size + 1) 72 [.bool neg, .slice A2 n2 c2, .int .i64 ex]) ∧ Hid (mRd2.R wr base (dotS a l k) [.bool neg, .slice A2 n2 c2, .int .i64 ex])) (fun iv _ => l.length - (intOf iv).toNat)
  case atStart => exact ⟨0, false, none, 0, 0, 0, by omega, rfl, HW0.out, HB40.out, HB50.out, mRd2_zero _ _⟩
  case round =>
    obtain ⟨k, neg, A2, n2, c2, ex, hk, rfl, hW, hB4, hB5, hS⟩ := hrel
    by_cases hlt : k < l.length
    · obtain ⟨pa, na, Aa, la, ka, ea, rfl, ra, a0, a1, a2⟩ := nat_elem (HA.out wr hW.out) (i := k) (by rw [List.length_map]; omega)
      obtain ⟨pb, nb, Ab, lb, kb, eb, rfl, rb, b0, b1, b2⟩ := nat_elem (HB.out wr hW.out) (i := k) (by rw [List.length_map]; omega)
      have hi1 : (k : Int) < (l.length : Int) := by omega
      have hi2 : (k : Int) < (a.length : Int) := by omega
      have hi3 : (0 : Int) ≤ (k : Int) := by omega
      obtain ⟨xa, hxa⟩ : ∃ x, (a.map fv).getD k 0 = x := ⟨_, rfl⟩
      obtain ⟨xb, hxb⟩ : ∃ x, (l.map fv).getD k 0 = x := ⟨_, rfl⟩
      rw [hxa] at ra
      rw [hxb] at rb
      have HX : Hid (xa.natAbs < 2 ^ CapL ∧ xb.natAbs < 2 ^ CapL ∧ (xa * xb).natAbs < 2 ^ CapL ∧ (dotS a l k).natAbs < 2 ^ CapL ∧ dotS a l k + xa * xb = dotS a l (k + 1)) := weigh_bd HF.out.1 HF.out.2 hle hm2 hlt hxa hxb
      have hbs := Nat.le_trans hbase hW.out.size
      have HT := Lib.hid (fun W (hW : Below wr.heap.size wr W) => times_o 1074 1074 base xa xb _ _ W (Nat.le_trans hbs hW.size) (Rd.below _ ra hW) (Rd.below _ rb hW) HX.out.1 HX.out.2.1 (by decide) (by decide))
      have HP := Lib.hid (fun W ct (hW : Below wr.heap.size wr W) (hr : mRd2.R W base (xa * xb) ct) => plus_o 2148 base (dotS a l k) (xa * xb) _ ct W (Nat.le_trans hbs hW.size) (Rd.below _ hS.out hW) hr HX.out.2.2.2.1 HX.out.2.2.1 (by decide))
      obtain ⟨s0, s1, s2⟩ : wr.cell? ⟨w.heap.size + 1, 0, none⟩ = some (.bool neg) ∧ wr.cell? ⟨w.heap.size + 1, 1, none⟩ = some (.slice A2 n2 c2) ∧ wr.cell? ⟨w.heap.size + 1, 2, none⟩ = some (.int .i64 ex) := ⟨hB5.out.cell 0, hB5.out.cell 1, hB5.out.cell 2⟩
      clear ra rb hxa hxb
      go_wp2
      go_region_with (first
        | (go_at_call 27; refine (HT.out _ (by repeat (first | exact Below.refl _ _ | (with_reducible apply below_drewN) | (with_reducible apply Below.drew)))).mono ?_; rintro e w2 ⟨nt, At, lt, kt, et, rfl, hrt, hWt⟩; have HW2 : Hid (Below wr.heap.size wr w2) := below_next (by repeat (first | exact Below.refl _ _ | (with_reducible apply below_drewN) | (with_reducible apply Below.drew))) hWt; have HRT := Lib.hid hrt; have HB2 := Lib.hid (Blk.below' hB5.out HW2.out); obtain ⟨q0, q1, q2⟩ : w2.cell? ⟨w.heap.size + 1, 0, none⟩ = some (.bool neg) ∧ w2.cell? ⟨w.heap.size + 1, 1, none⟩ = some (.slice A2 n2 c2) ∧ w2.cell? ⟨w.heap.size + 1, 2, none⟩ = some (.int .i64 ex) := ⟨HB2.out.cell 0, HB2.out.cell 1, HB2.out.cell 2⟩; clear hrt hWt)
        | (go_at_call 26; refine (HP.out _ _ (by repeat (first | exact HW2.out | (with_reducible apply below_drewN) | (with_reducible apply Below.drew))) (by repeat (first | exact HRT.out))).mono ?_; rintro e w3 ⟨np, Ap, lp, kp, ep, rfl, hrp, hWp⟩; have HW3 : Hid (Below wr.heap.size wr w3) := below_next (by repeat (first | exact HW2.out | (with_reducible apply below_drewN) | (with_reducible apply Below.drew))) hWp; have HRP := Lib.hid hrp; have HB3 := Lib.hid (Blk.below' hB5.out HW3.out); obtain ⟨p0, p1, p2⟩ : w3.cell? ⟨w.heap.size + 1, 0, none⟩ = some (.bool neg) ∧ w3.cell? ⟨w.heap.size + 1, 1, none⟩ = some (.slice A2 n2 c2) ∧ w3.cell? ⟨w.heap.size + 1, 2, none⟩ = some (.int .i64 ex) := ⟨HB3.out.cell 0, HB3.out.cell 1, HB3.out.cell 2⟩; have g0 := HB3.out.frozen 0; have g1 := HB3.out.frozen 1; have g2 := HB3.out.frozen 2; clear hrp hWp))
      all_goals (
        go_wp2
        go_roundw
        case rel => exact ⟨k + 1, np, Ap, lp, kp, ep, by omega, by go_num, (wstep (below_next hW.out HW3.out) (Blk.below' hB4.out HW3.out) HB3.out HRP.out hbase).1, (wstep (below_next hW.out HW3.out) (Blk.below' hB4.out HW3.out) HB3.out HRP.out hbase).2.1, (wstep (below_next hW.out HW3.out) (Blk.below' hB4.out HW3.out) HB3.out HRP.out hbase).2.2.1, by rw [← HX.out.2.2.2.2]; exact (wstep (below_next hW.out HW3.out) (Blk.below' hB4.out HW3.out) HB3.out HRP.out hbase).2.2.2⟩
        case measure => simp [intOf]; omega)
    · obtain rfl : k = l.length := by omega
      obtain ⟨s0, s1, s2⟩ : wr.cell? ⟨w.heap.size + 1, 0, none⟩ = some (.bool neg) ∧ wr.cell? ⟨w.heap.size + 1, 1, none⟩ = some (.slice A2 n2 c2) ∧ wr.cell? ⟨w.heap.size + 1, 2, none⟩ = some (.int .i64 ex) := ⟨hB5.out.cell 0, hB5.out.cell 1, hB5.out.cell 2⟩
      obtain ⟨r0, r1, r2⟩ : wr.cell? ⟨w.heap.size, 0, none⟩ = some (.bool false) ∧ wr.cell? ⟨w.heap.size, 1, none⟩ = some (.slice none 0 0) ∧ wr.cell? ⟨w.heap.size, 2, none⟩ = some (.int .i64 0) := ⟨hB4.out.cell 0, hB4.out.cell 1, hB4.out.cell 2⟩
      have f0 := hB4.out.frozen 0
      have f1 := hB4.out.frozen 1
      have f2 := hB4.out.frozen 2
      obtain ⟨g1, g2, g3⟩ := set3 (base := base) (B := w.heap.size) (E := [113]) (w0 := w) (.bool neg) (.slice A2 n2 c2) (.int .i64 ex) hB4.out hbase (by decide) (Nat.le_refl _) hW.out
      have HG := Lib.hid (And.intro g3 (mRd2.keep hS.out g2))
      obtain ⟨t0, t1, t2⟩ := three g1
      clear g1 g2 g3
      go_wp2
      refine bodyPost_ret (v := .agg #[.bool neg, .slice A2 n2 c2, .int .i64 ex]) (by simp [results, Tryz.results34, go_sem, t0, t1, t2]) rfl ⟨[.bool neg, .slice A2 n2 c2, .int .i64 ex], rfl, HG.out.2, HG.out.1⟩
end Go.Proofs.YtcfejobdgiiihaaGreatDoor

namespace Go.Proofs.YtcfejobdgiiihaaGreatDoor
open Go.RowKit

set_option maxHeartbeats 2000000 in
set_option maxRecDepth 100000 in
theorem same10_calls (A B : Option Addr) (xs ys : List Nat) (n m cx cy t1 t2 b1 b2 : Nat) (w : World) (hn : xs.length = n) (hm : ys.length = m) (hA : f64.Row t1 w b1 A xs) (hB : u64.Row t2 w b2 B ys) (hx : n ≤ 17592186044416) (hy : m ≤ 17592186044416) :
    Calls Tryz.prog 93 #[.slice A n cx, .slice B m cy] w fun e w' => e = .returned (.bool (decide (xs = ys))) ∧ ∃ q, w' = w.drewN q := by
  subst hn hm
  by_cases h : xs.length = ys.length
  · have HE := Lib.hid h
    have hg : ((xs.length : Int) != (ys.length : Int)) = false := by rw [h]; simp
    clear h
    go_enter Tryz.func93, Tryz.ntmps93
    go_wp2
    go_loopw [5] (fun i wr => ∃ (k : Nat), i = .int .i64 k ∧ k ≤ xs.length ∧ Hid (xs.take k = ys.take k) ∧ Hid (∃ q, wr = w.drewN q)) (fun i _ => xs.length - (intOf i).toNat)
    case atStart => exact ⟨0, rfl, Nat.zero_le _, rfl, 0, rfl⟩
    case round =>
      obtain ⟨k, rfl, hk, hI, hQ⟩ := hrel
      obtain ⟨q, rfl⟩ := hQ.out
      by_cases hlt : k < xs.length
      · have hD : Below w.heap.size w (w.drewN q) := below_drewN (Below.refl _ _) q
        obtain ⟨a, x, rfl, hca, hxb, hxe⟩ := f64at hA hlt
        obtain ⟨b, y, rfl, hcb, hyb, hye⟩ := u64at hB (i := k) (by have := HE.out; omega)
        have hlk : (k : Int) < (ys.length : Int) := by have := HE.out; omega
        have hlx : (k : Int) < (xs.length : Int) := by omega
        have hl0 : (0 : Int) ≤ (k : Int) := by omega
        have HBT := Lib.hid (fun W => apibits_calls x W)
        by_cases hxy : x = y
        · subst hxy
          go_wp2
          go_quiet ((go_at_call 18; first | exact quiet_sum ((HBT.out _).mono (fun _ _ h => ⟨h.1, 0, h.2.symm.trans (by simp)⟩)) | exact Calls.quiet_of_same ((HBT.out _).mono (fun _ _ h => ⟨h.1, h.2.symm⟩))))
          go_wp2
          go_roundw
          case rel => exact ⟨k + 1, by go_num, by omega, take_eq_step hI.out hlt (by have := HE.out; omega) hxe.out hye.out, ⟨_, rfl⟩⟩
          case measure => simp [intOf]; omega
        · have hne := Lib.hid hxy
          have hneb : ((x : Int) != (y : Int)) = true := by simp; omega
          clear hxy
          go_wp2
          go_quiet ((go_at_call 18; first | exact quiet_sum ((HBT.out _).mono (fun _ _ h => ⟨h.1, 0, h.2.symm.trans (by simp)⟩)) | exact Calls.quiet_of_same ((HBT.out _).mono (fun _ _ h => ⟨h.1, h.2.symm⟩))))
          go_wp2
          go_ret
          exact ⟨by rw [ne_of_getD hxe.out hye.out hne.out]; rfl, _, drewN_drewN _ _ _⟩
      · obtain rfl : k = xs.length := by omega
        go_wp2
        go_ret
        exact ⟨by rw [eq_of_takes hI.out HE.out.symm]; rfl, q, rfl⟩
  · have hg : ((xs.length : Int) != (ys.length : Int)) = true := by simp; omega
    have HN : Hid (decide (xs = ys) = false) := decide_eq_false (by rintro rfl; exact h rfl)
    go_enter Tryz.func93, Tryz.ntmps93
    go_wp2
    go_ret
    exact ⟨by rw [HN.out]; rfl, 0, rfl⟩

end Go.Proofs.YtcfejobdgiiihaaGreatDoor

namespace Go.Proofs.YtcfejobdgiiihaaGreatDoor
open Go.RowKit

theorem eq_neq (n : Nat) : ((n : Int) != (n : Int)) = false := by simp
set_option maxHeartbeats 4000000 in
set_option maxRecDepth 100000 in
theorem same75_calls (z : Zn) (cs1 cs2 : List Value) (w : World) (b1 b2 : Nat) (h1 : zRd.R w b1 z cs1) (h2 : rzRd.R w b2 z cs2) :
    Calls Tryz.prog 75 #[.agg cs1.toArray, .agg cs2.toArray] w fun e w' => e = .returned (.bool true) ∧ Below w.heap.size w w' := by
  obtain ⟨AC, AI, AG, AR, cC, cI, cG, cR, rfl, hr, hl⟩ := h1
  obtain ⟨BC, BI, BG, BR, dC, dI, dG, dR, rfl, hr', hl'⟩ := h2
  obtain ⟨N, C, Ids, G, R, bad⟩ := z
  have HSC := Lib.hid (fun W (hW : Below w.heap.size w W) => same10_calls AC BC C C C.length C.length cC dC 47 50 b1 b2 W rfl rfl (hr.C.below hW) (hr'.C.below hW) hl.c.2 hl.c.2)
  have HSR := Lib.hid (fun W (hW : Below w.heap.size w W) => same10_calls AR BR R R R.length R.length cR dR 47 50 b1 b2 W rfl rfl (hr.R.below hW) (hr'.R.below hW) hl.r.2 hl.r.2)
  rw [show decide (C = C) = true from decide_eq_true rfl] at HSC
  rw [show decide (R = R) = true from decide_eq_true rfl] at HSR
  have HI1 := Lib.hid (fun W (hW : Below w.heap.size w W) => (show i64.Row 3 W b1 AI Ids from hr.I.below hW))
  have HI2 := Lib.hid (fun W (hW : Below w.heap.size w W) => (show i64.Row 3 W b2 BI Ids from hr'.I.below hW))
  have HG1 := Lib.hid (fun W (hW : Below w.heap.size w W) => (show (bsl 47 f64).Row 22 W b1 AG G from hr.G.below hW))
  have HG2 := Lib.hid (fun W (hW : Below w.heap.size w W) => (show (bsl 50 u64).Row 33 W b2 BG G from hr'.G.below hW))
  have hil : Ids.length ≤ 17592186044416 := hl.i.2
  have hgl : G.length ≤ 17592186044416 := Nat.le_trans hl.g.2 (by decide)
  have hcl : C.length ≤ 17592186044416 := hl.c.2
  have hrl : R.length ≤ 17592186044416 := hl.r.2
  simp only at *
  have HW := Lib.hid (below_new (below_new (Below.refl w.heap.size w) (.cells #[.int .i64 N, .slice AC C.length cC, .slice AI Ids.length cI, .slice AG G.length cG, .slice AR R.length cR, .bool bad] 42)) (.cells #[.int .i64 N, .slice BC C.length dC, .slice BI Ids.length dI, .slice BG G.length dG, .slice BR R.length dR, .bool bad] 44))
  have HB1 := Lib.hid ((Blk.new w #[.int .i64 N, .slice AC C.length cC, .slice AI Ids.length cI, .slice AG G.length cG, .slice AR R.length cR, .bool bad] 42).alloc (.cells #[.int .i64 N, .slice BC C.length dC, .slice BI Ids.length dI, .slice BG G.length dG, .slice BR R.length dR, .bool bad] 44))
  have HB2 := Lib.hid (blk_new' (w.alloc (.cells #[.int .i64 N, .slice AC C.length cC, .slice AI Ids.length cI, .slice AG G.length cG, .slice AR R.length cR, .bool bad] 42)) (w.heap.size + 1) (by simp) #[.int .i64 N, .slice BC C.length dC, .slice BI Ids.length dI, .slice BG G.length dG, .slice BR R.length dR, .bool bad] 44)
  have hbb : ∀ b : Bool, (b != b) = false := fun b => by cases b <;> rfl
  have hnn : (N != N) = false := by simp
  have e1 := eq_neq Ids.length
  have e2 := eq_neq G.length
  clear hr hr' hl hl'
  go_enter Tryz.func75, Tryz.ntmps75
  go_wp2_with fail
  refine (HSC.out _ HW.out).mono ?_
  rintro e w1 ⟨rfl, q1, rfl⟩
  go_wp2_with fail
  refine (HSR.out _ (below_drewN HW.out q1)).mono ?_
  rintro e w1 ⟨rfl, q2, rfl⟩
  go_wp2
  clear hbb hnn e1 e2 HSC HSR
  go_loopw [5] (fun iv wr => ∃ k : Nat, k ≤ Ids.length ∧ iv = .int .i64 k ∧ Hid (Below w.heap.size w wr) ∧ Hid (Blk wr w.heap.size 42 [.int .i64 N, .slice AC C.length cC, .slice AI Ids.length cI, .slice AG G.length cG, .slice AR R.length cR, .bool bad]) ∧ Hid (Blk wr (w.heap.size + 1) 44 [.int .i64 N, .slice BC C.length dC, .slice BI Ids.length dI, .slice BG G.length dG, .slice BR R.length dR, .bool bad])) (fun iv _ => Ids.length - (intOf iv).toNat)
  case atStart => exact ⟨0, by omega, rfl, by simp only [Hid]; repeat (first | exact HW.out | (with_reducible apply below_drewN)), HB1.out, HB2.out⟩
  case round =>
    obtain ⟨k, hk, rfl, hW, hB1, hB2⟩ := hrel
    have c2 : wr.cell? ⟨w.heap.size, 2, none⟩ = some (.slice AI Ids.length cI) := hB1.out.cell 2
    have c2' : wr.cell? ⟨w.heap.size + 1, 2, none⟩ = some (.slice BI Ids.length dI) := hB2.out.cell 2
    by_cases hlt : k < Ids.length
    · obtain ⟨a, x, rfl, hca, hxb, hxe⟩ := i64at (HI1.out wr hW.out) hlt
      obtain ⟨b, y, rfl, hcb, hyb, hye⟩ := i64at (HI2.out wr hW.out) hlt
      obtain rfl : y = x := hye.out.symm.trans hxe.out
      have hlx : (k : Int) < (Ids.length : Int) := by omega
      have hl0 : (0 : Int) ≤ (k : Int) := by omega
      go_wp2
      go_quiet (fail)
      go_wp2
      go_roundw
      case rel => exact ⟨k + 1, by omega, by go_num, below_drewN hW.out _, hB1.out, hB2.out⟩
      case measure => simp [intOf]; omega
    · obtain rfl : k = Ids.length := by omega
      clear hlt
      have c3 : wr.cell? ⟨w.heap.size, 3, none⟩ = some (.slice AG G.length cG) := hB1.out.cell 3
      go_wp2
      clear c2 c2' c3
      go_loopw [6] (fun iv wr => ∃ k : Nat, k ≤ G.length ∧ iv = .int .i64 k ∧ Hid (Below w.heap.size w wr) ∧ Hid (Blk wr w.heap.size 42 [.int .i64 N, .slice AC C.length cC, .slice AI Ids.length cI, .slice AG G.length cG, .slice AR R.length cR, .bool bad]) ∧ Hid (Blk wr (w.heap.size + 1) 44 [.int .i64 N, .slice BC C.length dC, .slice BI Ids.length dI, .slice BG G.length dG, .slice BR R.length dR, .bool bad])) (fun iv _ => G.length - (intOf iv).toNat)
      case atStart => exact ⟨0, by omega, rfl, hW.out, hB1.out, hB2.out⟩
      case round =>
        obtain ⟨k, hk, rfl, hW, hB1, hB2⟩ := hrel
        have c3 : wr.cell? ⟨w.heap.size, 3, none⟩ = some (.slice AG G.length cG) := hB1.out.cell 3
        have c3' : wr.cell? ⟨w.heap.size + 1, 3, none⟩ = some (.slice BG G.length dG) := hB2.out.cell 3
        by_cases hlt : k < G.length
        · obtain ⟨a, A2, x, ca, rfl, hca, hxe, hlc, hlC, hra⟩ := bsl_at (HG1.out wr hW.out) hlt
          obtain ⟨b, B2, y, cb, rfl, hcb, hye, hld, hlD, hrb⟩ := bsl_at (HG2.out wr hW.out) hlt
          obtain rfl : y = x := hye.out.symm.trans hxe.out
          have hlx : (k : Int) < (G.length : Int) := by omega
          have hl0 : (0 : Int) ≤ (k : Int) := by omega
          have HS := Lib.hid (fun W (hW : Below wr.heap.size wr W) => same10_calls A2 B2 y y y.length y.length ca cb 47 50 b1 b2 W rfl rfl (hra.below hW) (hrb.below hW) hlC hlC)
          rw [show decide (y = y) = true from decide_eq_true rfl] at HS
          clear hra hrb
          go_wp2
          go_quiet ((go_at_call 93; first | exact quiet_sum (HS.out _ (below_drewN (Below.refl _ _) _)) | exact Calls.quiet_of (HS.out _ (below_drewN (Below.refl _ _) _))))
          go_wp2
          go_roundw
          case rel => exact ⟨k + 1, by omega, by go_num, below_drewN hW.out _, hB1.out, hB2.out⟩
          case measure => simp [intOf]; omega
        · obtain rfl : k = G.length := by omega
          go_wp2
          go_ret
          exact ⟨rfl, hW.out⟩
set_option maxHeartbeats 4000000 in
set_option maxRecDepth 100000 in
theorem sameprop_calls (p : Pr) (cs1 cs2 : List Value) (w : World) (b1 b2 : Nat) (h1 : rpRd.R w b1 p cs1) (h2 : rpRd.R w b2 p cs2) :
    Calls Tryz.prog 37 #[.agg cs1.toArray, .agg cs2.toArray] w fun e w' => e = .returned (.bool true) ∧ Below w.heap.size w w' := by
  obtain ⟨AC, AG, AL, cC, cG, cL, rfl, hr, hl⟩ := h1
  obtain ⟨BC, BG, BL, dC, dG, dL, rfl, hr', hl'⟩ := h2
  obtain ⟨C, G, T, L, K, D, S⟩ := p
  have HSC := Lib.hid (fun W (hW : Below w.heap.size w W) => samelist_calls AC BC C C C.length C.length cC dC 50 50 b1 b2 W rfl rfl (hr.C.below hW) (hr'.C.below hW) hl.c.2 hl.c.2)
  have HSG := Lib.hid (fun W (hW : Below w.heap.size w W) => samelists_calls AG BG G G G.length G.length cG dG 33 33 50 50 b1 b2 W rfl rfl (hr.G.below hW) (hr'.G.below hW) (Nat.le_trans hl.g.2 (by decide)) (Nat.le_trans hl.g.2 (by decide)))
  have HSL := Lib.hid (fun W (hW : Below w.heap.size w W) => samelists_calls AL BL L L L.length L.length cL dL 33 33 50 50 b1 b2 W rfl rfl (hr.L.below hW) (hr'.L.below hW) (Nat.le_trans hl.l.2 (by decide)) (Nat.le_trans hl.l.2 (by decide)))
  rw [show decide (C = C) = true from decide_eq_true rfl] at HSC
  rw [show decide (G = G) = true from decide_eq_true rfl] at HSG
  rw [show decide (L = L) = true from decide_eq_true rfl] at HSL
  simp only at *
  have HW := Lib.hid (below_new (below_new (Below.refl w.heap.size w) (.cells #[.slice AC C.length cC, .slice AG G.length cG, .int .i64 T, .slice AL L.length cL, .int .i64 K, .int .i64 D, .int .i64 S] 35)) (.cells #[.slice BC C.length dC, .slice BG G.length dG, .int .i64 T, .slice BL L.length dL, .int .i64 K, .int .i64 D, .int .i64 S] 35))
  have e1 : (T == T) = true := by simp
  have e2 : (K == K) = true := by simp
  have e3 : (D == D) = true := by simp
  have e4 : (S == S) = true := by simp
  clear hr hr' hl hl'
  go_enter Tryz.func37, Tryz.ntmps37
  go_wp2_with fail
  refine (HSC.out _ HW.out).mono ?_
  rintro e w1 ⟨rfl, q1, rfl⟩
  go_wp2_with fail
  refine (HSG.out _ (below_drewN HW.out q1)).mono ?_
  rintro e w1 ⟨rfl, q2, rfl⟩
  go_wp2_with fail
  refine (HSL.out _ (by repeat (first | exact HW.out | (with_reducible apply below_drewN)))).mono ?_
  rintro e w1 ⟨rfl, q3, rfl⟩
  go_wp2
  go_ret
  exact ⟨rfl, by repeat (first | exact HW.out | (with_reducible apply below_drewN))⟩
end Go.Proofs.YtcfejobdgiiihaaGreatDoor

namespace Go.Proofs.YtcfejobdgiiihaaGreatDoor
open Go.RowKit

/-- a real at a finer scale -/
theorem num_raise {K J : Nat} {w : World} {base : Nat} {X : Int} {cs : List Value} (h : (numRd K).R w base X cs) : (numRd (K + J)).R w base (X * (2 ^ J : Nat)) cs := by
  obtain ⟨neg, m, e, v, rfl, hm, he, heb, rfl⟩ := h
  refine ⟨neg, m, e, v, rfl, hm, fun h => by have := he h; omega, heb, ?_⟩
  by_cases h0 : m = 0
  · subst h0; simp [sg_zero]
  · have h1 := he h0
    rw [show (e + (K + J : Nat) : Int).toNat = (e + K).toNat + J from by omega, Nat.pow_add, ← Nat.mul_assoc]
    generalize m * 2 ^ (e + K).toNat = q
    cases neg
    · simp [sg]
    · simp [sg, Int.neg_mul]
/-- the reference's real zonotope -/
structure RRows (w : World) (base : Nat) (z : Zn) (AC AI AG AR : Option Addr) : Prop where
  C : nRd.Row 72 w base AC (z.C.map fv)
  I : i64.Row 3 w base AI z.Ids
  G : (bsl 72 nRd).Row 62 w base AG (z.G.map (fun g => g.map fv))
  R : nRd.Row 72 w base AR (z.R.map fv)
def realCs (z : Zn) (AC AI AG AR : Option Addr) (cC cI cG cR : Nat) : List Value := [.int .i64 z.N, .slice AC z.C.length cC, .slice AI z.Ids.length cI, .slice AG z.G.length cG, .slice AR z.R.length cR]
theorem RRows.below {w w' : World} {base : Nat} {z : Zn} {AC AI AG AR : Option Addr} (h : RRows w base z AC AI AG AR) (hW : Below w.heap.size w w') : RRows w' base z AC AI AG AR :=
  ⟨h.C.below hW, h.I.below hW, h.G.below hW, h.R.below hW⟩
end Go.Proofs.YtcfejobdgiiihaaGreatDoor

namespace Go.Proofs.YtcfejobdgiiihaaGreatDoor
open Go.RowKit

/-! ### ref10.Reals -/
theorem Rd.Own.keep {α : Type} {d : Rd α} {t : Nat} {w w' : World} {b0 base : Nat} {v : Value} {xs : List α} {E : List Nat} (h : d.Own t w b0 base v xs) (hk : Keeps base E w w') (ht : t ∈ E) (hE : ∀ q, q ∈ d.E → q ∈ E) : d.Own t w' b0 base v xs := by
  obtain ⟨css, hl, ho, hr⟩ := h
  refine ⟨css, hl, ⟨ho.1, ?_⟩, fun i x c h1 h2 => d.keep (hr i x c h1 h2) (hk.sub hE)⟩
  rcases ho.2 with hn | ⟨g, cap, cur, rfl, hg, hh, r⟩
  · exact .inl hn
  · exact .inr ⟨g, cap, cur, rfl, hg, (hk.2 g (Array.getElem?_eq_some_iff.1 hh).1 (.inr ⟨cur, t, ht, hh⟩)).trans hh, r⟩
def realB (z : Zn) : Bool := !z.bad && goodB z
theorem five {w : World} {b t : Nat} {x0 x1 x2 x3 x4 : Value} (h : Blk w b t [x0, x1, x2, x3, x4]) :
    w.cell? ⟨b, 0, none⟩ = some x0 ∧ w.cell? ⟨b, 1, none⟩ = some x1 ∧ w.cell? ⟨b, 2, none⟩ = some x2 ∧ w.cell? ⟨b, 3, none⟩ = some x3 ∧ w.cell? ⟨b, 4, none⟩ = some x4 :=
  ⟨h.cell 0, h.cell 1, h.cell 2, h.cell 3, h.cell 4⟩
abbrev zc5 : List Value := [.int .i64 0, .slice none 0 0, .slice none 0 0, .slice none 0 0, .slice none 0 0]
theorem realB_no {z : Zn} (h : z.bad = true ∨ z.N < 1 ∨ 256 < z.N ∨ z.Ids.length ≠ z.G.length ∨ rowB z.C z.N = false ∨ rowB z.R z.N = false) : realB z = false := by
  unfold realB goodB
  rcases h with h | h | h | h | h | h
  · rw [h]; rfl
  · rw [decide_eq_false (show ¬ 1 ≤ z.N by omega)]; simp
  · rw [decide_eq_false (show ¬ z.N ≤ 256 by omega)]; simp
  · rw [decide_eq_false h]; simp
  · rw [h]; simp
  · rw [h]; simp
set_option maxHeartbeats 2000000 in
set_option maxRecDepth 100000 in
theorem reals_early (z : Zn) (cs : List Value) (w : World) (b1 : Nat) (h : rzRd.R w b1 z cs) (hb : z.bad = true ∨ z.N < 1 ∨ 256 < z.N ∨ z.Ids.length ≠ z.G.length) :
    Calls Tryz.prog 24 #[.agg cs.toArray] w fun e w' => e = .returned (.tuple #[.agg zc5.toArray, .bool false]) ∧ Below w.heap.size w w' := by
  obtain ⟨AC, AI, AG, AR, cC, cI, cG, cR, rfl, hr, hl⟩ := h
  obtain ⟨N, C, Ids, G, R, bad⟩ := z
  have h1 : Ids.length ≤ 17592186044416 := hl.i.2
  have h2 : G.length ≤ 17592186044416 := Nat.le_trans hl.g.2 (by decide)
  simp only at hb ⊢
  clear hr hl
  rcases hb with rfl | hb
  · go_enter Tryz.func24, Tryz.ntmps24
    go_wp2
    refine bodyPost_ret (v := .tuple #[.agg zc5.toArray, .bool false]) (by simp [results, Tryz.results24, go_sem]) rfl ⟨rfl, below_new (below_new (Below.refl _ _) _) _⟩
  · cases bad
    rotate_left
    · clear hb
      go_enter Tryz.func24, Tryz.ntmps24
      go_wp2
      refine bodyPost_ret (v := .tuple #[.agg zc5.toArray, .bool false]) (by simp [results, Tryz.results24, go_sem]) rfl ⟨rfl, below_new (below_new (Below.refl _ _) _) _⟩
    · by_cases hn1 : N < 1
      · clear hb
        go_enter Tryz.func24, Tryz.ntmps24
        go_wp2
        refine bodyPost_ret (v := .tuple #[.agg zc5.toArray, .bool false]) (by simp [results, Tryz.results24, go_sem]) rfl ⟨rfl, below_new (below_new (Below.refl _ _) _) _⟩
      · by_cases hn2 : 256 < N
        · clear hb
          go_enter Tryz.func24, Tryz.ntmps24
          go_wp2
          refine bodyPost_ret (v := .tuple #[.agg zc5.toArray, .bool false]) (by simp [results, Tryz.results24, go_sem]) rfl ⟨rfl, below_new (below_new (Below.refl _ _) _) _⟩
        · have hb' : Ids.length ≠ G.length := by
            rcases hb with h | h | h
            · exact absurd h hn1
            · exact absurd h hn2
            · exact h
          have e1 : ((Ids.length : Int) != (G.length : Int)) = true := by simp; omega
          clear hb hb'
          go_enter Tryz.func24, Tryz.ntmps24
          go_wp2
          refine bodyPost_ret (v := .tuple #[.agg zc5.toArray, .bool false]) (by simp [results, Tryz.results24, go_sem]) rfl ⟨rfl, below_new (below_new (Below.refl _ _) _) _⟩
end Go.Proofs.YtcfejobdgiiihaaGreatDoor

namespace Go.Proofs.YtcfejobdgiiihaaGreatDoor
open Go.RowKit

/-- the world behind the three first blocks of Reals -/
abbrev rzCs (N : Int) (AC AI AG AR : Option Addr) (lC cC lI cI lG cG lR cR : Nat) (b : Bool) : List Value := [.int .i64 N, .slice AC lC cC, .slice AI lI cI, .slice AG lG cG, .slice AR lR cR, .bool b]
structure RW (w wx : World) (zs xs : List Value) : Prop where
  W : Below w.heap.size w wx
  Z : Blk wx w.heap.size 44 zs
  O : Blk wx (w.heap.size + 1) 65 zc5
  X : Blk wx (w.heap.size + 2) 65 xs
theorem RW.next {w wx wy : World} {zs xs : List Value} (h : RW w wx zs xs) (hb : Below wx.heap.size wx wy) : RW w wy zs xs :=
  ⟨below_next h.W hb, h.Z.below' hb, h.O.below' hb, h.X.below' hb⟩
theorem RW.drewN {w wx : World} {zs xs : List Value} (h : RW w wx zs xs) (q : Nat) : RW w (wx.drewN q) zs xs := ⟨below_drewN h.W q, h.Z, h.O, h.X⟩
theorem rw_new (w : World) (zs : List Value) (N : Int) : RW w (((w.alloc (.cells zs.toArray 44)).alloc (.cells zc5.toArray 65)).alloc (.cells #[.int .i64 N, .slice none 0 0, .slice none 0 0, .slice none 0 0, .slice none 0 0] 65)) zs [.int .i64 N, .slice none 0 0, .slice none 0 0, .slice none 0 0, .slice none 0 0] := by
  refine ⟨below_new (below_new (below_new (Below.refl _ _) _) _) _, ((Blk.new w zs.toArray 44).alloc _).alloc _, (blk_new' (w.alloc (.cells zs.toArray 44)) (w.heap.size + 1) (by simp) zc5.toArray 65).alloc _, ?_⟩
  have := blk_new' ((w.alloc (.cells zs.toArray 44)).alloc (.cells zc5.toArray 65)) (w.heap.size + 2) (by simp) #[.int .i64 N, .slice none 0 0, .slice none 0 0, .slice none 0 0, .slice none 0 0] 65
  exact this
set_option maxHeartbeats 4000000 in
set_option maxRecDepth 100000 in
theorem reals_head (z : Zn) (cs : List Value) (w : World) (b1 base : Nat) (h : rzRd.R w b1 z cs) (hbase : base ≤ w.heap.size) (hb : z.bad = false) (hn1 : 1 ≤ z.N) (hn2 : z.N ≤ 256) (hL : z.Ids.length = z.G.length) (hrow : (rowB z.C z.N && rowB z.R z.N) = false) :
    Calls Tryz.prog 24 #[.agg cs.toArray] w fun e w' => e = .returned (.tuple #[.agg zc5.toArray, .bool false]) ∧ Below w.heap.size w w' := by
  obtain ⟨AC, AI, AG, AR, cC, cI, cG, cR, rfl, hr, hl⟩ := h
  obtain ⟨N, C, Ids, G, R, bad⟩ := z
  simp only at hb hn1 hn2 hL hrow ⊢
  subst hb
  have HNC := Lib.hid (fun W (hW : Below w.heap.size w W) => numbers_calls AC C C.length cC 50 b1 base N W rfl (hr.C.below hW) (by omega) (Nat.le_trans hbase hW.size))
  have HNR := Lib.hid (fun W (hW : Below w.heap.size w W) => numbers_calls AR R R.length cR 50 b1 base N W rfl (hr.R.below hW) (by omega) (Nat.le_trans hbase hW.size))
  have HW := Lib.hid (rw_new w [.int .i64 N, .slice AC C.length cC, .slice AI Ids.length cI, .slice AG G.length cG, .slice AR R.length cR, .bool false] N)
  have h1 : Ids.length ≤ 17592186044416 := hl.i.2
  have h2 : G.length ≤ 17592186044416 := Nat.le_trans hl.g.2 (by decide)
  have hd1 : decide (N < 1) = false := by simp; omega
  have hd2 : decide (256 < N) = false := by simp; omega
  have e1 : ((Ids.length : Int) != (G.length : Int)) = false := by simp; omega
  obtain ⟨rc, hrc⟩ : ∃ r, rowB C N = r := ⟨_, rfl⟩
  obtain ⟨rr, hrr⟩ : ∃ r, rowB R N = r := ⟨_, rfl⟩
  rw [hrc] at HNC hrow
  rw [hrr] at HNR hrow
  clear hr hl hrc hrr hL
  go_enter Tryz.func24, Tryz.ntmps24
  go_wp2_with fail
  refine (HNC.out _ HW.out.W).mono ?_
  rintro e w1 ⟨B1, k1, c1, rfl, hk1, hW1, hC1⟩
  have H1 := Lib.hid (HW.out.next hW1)
  obtain ⟨z0, _, _, _, z4, _⟩ := six H1.out.Z
  clear hW1 hC1 HNC HW hd1 hd2 e1
  go_wp2_with fail
  refine (HNR.out _ H1.out.W).mono ?_
  rintro e w2 ⟨B2, k2, c2, rfl, hk2, hW2, hC2⟩
  have H2 := Lib.hid (H1.out.next hW2)
  obtain ⟨o0, o1, o2, o3, o4⟩ := five H2.out.O
  have f0 := H2.out.O.frozen 0; have f1 := H2.out.O.frozen 1; have f2 := H2.out.O.frozen 2; have f3 := H2.out.O.frozen 3; have f4 := H2.out.O.frozen 4
  have x1 := H2.out.X.cell 1; have x4 := H2.out.X.cell 4; have g1 := H2.out.X.frozen 1; have g4 := H2.out.X.frozen 4
  obtain ⟨s1, s2, s3⟩ := set5 (base := 0) (B := w.heap.size) (E := []) (w0 := w) (.int .i64 0) (.slice none 0 0) (.slice none 0 0) (.slice none 0 0) (.slice none 0 0) H2.out.O (by omega) (by simp) (by omega) H2.out.W
  have HS := Lib.hid s3
  obtain ⟨t0, t1, t2, t3, t4⟩ := five s1
  clear hW2 hC2 HNR z0 z4 s1 s2 s3
  cases rc
  · go_wp2
    refine bodyPost_ret (v := .tuple #[.agg zc5.toArray, .bool false]) (by simp [results, Tryz.results24, go_sem, t0, t1, t2, t3, t4]) rfl ⟨rfl, HS.out⟩
  · have hrr : rr = false := by simpa using hrow
    subst hrr
    go_wp2
    refine bodyPost_ret (v := .tuple #[.agg zc5.toArray, .bool false]) (by simp [results, Tryz.results24, go_sem, t0, t1, t2, t3, t4]) rfl ⟨rfl, HS.out⟩
end Go.Proofs.YtcfejobdgiiihaaGreatDoor

namespace Go.Proofs.YtcfejobdgiiihaaGreatDoor
open Go.RowKit

abbrev gRd : Rd (List Int) := bsl 72 nRd
theorem nRd_E : nRd.E = [113] := rfl
theorem gRd_E : gRd.E = [72, 113] := rfl
/-- what Reals holds in its second loop -/
structure RS (w wx : World) (base : Nat) (zs : List Value) (n : Nat) (C R : List Nat) (B1 B2 : Option Addr) (c1 c2 : Nat) (vI vG : Value) (I : List Int) (Gs : List (List Int)) : Prop where
  rw : RW w wx zs [.int .i64 n, .slice B1 n c1, vI, vG, .slice B2 n c2]
  C : nRd.Row 72 wx base B1 (C.map fv)
  R : nRd.Row 72 wx base B2 (R.map fv)
  I : i64.Own 3 wx w.heap.size base vI I
  G : gRd.Own 62 wx w.heap.size base vG Gs
section
variable {w wx wy : World} {base n c1 c2 : Nat} {zs : List Value} {C R : List Nat} {B1 B2 : Option Addr} {vI vG : Value} {I : List Int} {Gs : List (List Int)}
theorem RS.next (h : RS w wx base zs n C R B1 B2 c1 c2 vI vG I Gs) (hb : Below wx.heap.size wx wy) : RS w wy base zs n C R B1 B2 c1 c2 vI vG I Gs :=
  ⟨h.rw.next hb, h.C.below hb, h.R.below hb, h.I.below hb, h.G.below hb⟩
theorem RS.drewN (h : RS w wx base zs n C R B1 B2 c1 c2 vI vG I Gs) (q : Nat) : RS w (wx.drewN q) base zs n C R B1 B2 c1 c2 vI vG I Gs :=
  h.next (below_drewN (Below.refl _ _) q)
theorem RS.drew (h : RS w wx base zs n C R B1 B2 c1 c2 vI vG I Gs) : RS w wx.drew base zs n C R B1 B2 c1 c2 vI vG I Gs :=
  h.next (Below.refl _ _).drew
theorem RW.grown {xs : List Value} {row : Option Nat} {α : Type} {d : Rd α} {t : Nat} {v : Value} {es : List α} (h : RW w wx zs xs) (ho : d.Own t wx w.heap.size base v es) (hg : wx.grownBy wy v.ownBlock) (h1 : 44 ≠ t) (h2 : 65 ≠ t) : RW w wy zs xs :=
  ⟨Rd.Own.below_of ho h.W hg, h.Z.grown hg (h.Z.ne_ownd ho h1), h.O.grown hg (h.O.ne_ownd ho h2), h.X.grown hg (h.X.ne_ownd ho h2)⟩
theorem RW.setX {xs : List Value} (h : RW w wx zs xs) (i : Nat) (v : Value) : RW w (wx.setCell ⟨w.heap.size + 2, i, none⟩ v) zs (xs.set i v) :=
  ⟨h.W.setCell (p := ⟨w.heap.size + 2, i, none⟩) (show w.heap.size ≤ w.heap.size + 2 by omega) _, h.Z.far (p := ⟨w.heap.size + 2, i, none⟩) (show w.heap.size ≠ w.heap.size + 2 by omega) _, h.O.far (p := ⟨w.heap.size + 2, i, none⟩) (show w.heap.size + 1 ≠ w.heap.size + 2 by omega) _, h.X.set i v⟩
theorem RS.appI {v1 : Value} {x : Int} (h : RS w wx base zs n C R B1 B2 c1 c2 vI vG I Gs) (hbase : base ≤ w.heap.size) (ho : i64.Own 3 wy w.heap.size base v1 (I ++ [x])) (hg : wx.grownBy wy vI.ownBlock) :
    RS w (wy.setCell ⟨w.heap.size + 2, 2, none⟩ v1) base zs n C R B1 B2 c1 c2 v1 vG (I ++ [x]) Gs ∧ RW w wy zs [.int .i64 n, .slice B1 n c1, vI, vG, .slice B2 n c2] ∧ Keeps base [72, 113, 62] wx (wy.setCell ⟨w.heap.size + 2, 2, none⟩ v1) := by
  have hr := RW.grown (row := none) h.rw h.I hg (by decide) (by decide)
  have k1 : Keeps base [72, 113, 62] wx wy := h.I.keeps hg hbase (by decide)
  have k2 : Keeps base [72, 113, 62, 3] wy (wy.setCell ⟨w.heap.size + 2, 2, none⟩ v1) := Keeps.set_blk hr.X (by omega) (by decide) 2 v1
  have k := k1.trans (k2.sub (by simp +contextual))
  refine ⟨⟨hr.setX 2 v1, h.C.keep k (by simp) (by intro q hq; rw [nRd_E] at hq; simp at hq; simp [hq]), h.R.keep k (by simp) (by intro q hq; rw [nRd_E] at hq; simp at hq; simp [hq]), ho.keep k2 (by simp) (by intro q hq; cases hq), h.G.keep k (by simp) (by intro q hq; rw [gRd_E] at hq; simp at hq; rcases hq with hq | hq <;> simp [hq])⟩, hr, k⟩
theorem RS.appG {v1 : Value} {x : List Int} (h : RS w wx base zs n C R B1 B2 c1 c2 vI vG I Gs) (hbase : base ≤ w.heap.size) (ho : gRd.Own 62 wy w.heap.size base v1 (Gs ++ [x])) (hg : wx.grownBy wy vG.ownBlock) :
    RS w (wy.setCell ⟨w.heap.size + 2, 3, none⟩ v1) base zs n C R B1 B2 c1 c2 vI v1 I (Gs ++ [x]) ∧ RW w wy zs [.int .i64 n, .slice B1 n c1, vI, vG, .slice B2 n c2] := by
  have hr := RW.grown (row := none) h.rw h.G hg (by decide) (by decide)
  have k1 : Keeps base [72, 113, 3] wx wy := h.G.keeps hg hbase (by decide)
  have k2 : Keeps base [72, 113, 3, 62] wy (wy.setCell ⟨w.heap.size + 2, 3, none⟩ v1) := Keeps.set_blk hr.X (by omega) (by decide) 3 v1
  have k := k1.trans (k2.sub (by simp +contextual))
  refine ⟨⟨hr.setX 3 v1, h.C.keep k (by simp) (by intro q hq; rw [nRd_E] at hq; simp at hq; simp [hq]), h.R.keep k (by simp) (by intro q hq; rw [nRd_E] at hq; simp at hq; simp [hq]), h.I.keep k (by simp) (by intro q hq; cases hq), ho.keep k2 (by simp) (by intro q hq; rw [gRd_E] at hq; simp at hq; rcases hq with hq | hq <;> simp [hq])⟩, hr⟩
end
end Go.Proofs.YtcfejobdgiiihaaGreatDoor

namespace Go.Proofs.YtcfejobdgiiihaaGreatDoor
open Go.RowKit

section
variable {w wx wy : World} {base n c1 c2 : Nat} {zs : List Value} {C R : List Nat} {B1 B2 : Option Addr} {vI vG : Value} {I : List Int} {Gs : List (List Int)}
/-- the answer 'none' is laid -/
theorem RW.zero {xs : List Value} (h : RW w wx zs xs) :
    Blk (((((wx.setCell ⟨w.heap.size + 1, 0, none⟩ (.int .i64 0)).setCell ⟨w.heap.size + 1, 1, none⟩ (.slice none 0 0)).setCell ⟨w.heap.size + 1, 2, none⟩ (.slice none 0 0)).setCell ⟨w.heap.size + 1, 3, none⟩ (.slice none 0 0)).setCell ⟨w.heap.size + 1, 4, none⟩ (.slice none 0 0)) (w.heap.size + 1) 65 zc5 ∧
    Below w.heap.size w (((((wx.setCell ⟨w.heap.size + 1, 0, none⟩ (.int .i64 0)).setCell ⟨w.heap.size + 1, 1, none⟩ (.slice none 0 0)).setCell ⟨w.heap.size + 1, 2, none⟩ (.slice none 0 0)).setCell ⟨w.heap.size + 1, 3, none⟩ (.slice none 0 0)).setCell ⟨w.heap.size + 1, 4, none⟩ (.slice none 0 0)) := by
  obtain ⟨s1, s2, s3⟩ := set5 (base := 0) (B := w.heap.size) (E := []) (w0 := w) (.int .i64 0) (.slice none 0 0) (.slice none 0 0) (.slice none 0 0) (.slice none 0 0) h.O (by omega) (by simp) (by omega) h.W
  exact ⟨s1, s3⟩
theorem RW.ofz {xs : List Value} (h : RW w wx zs xs) : ∀ i, wx.frozen? ⟨w.heap.size + 1, i, none⟩ = false := fun i => h.O.frozen i
end
theorem own_new {α : Type} {d : Rd α} {t : Nat} {w : World} {b0 base n c : Nat} {A : Option Addr} {xs : List α} (h : d.Own t w b0 base (.slice A n c) xs) : ∀ q : Addr, A = some q → b0 ≤ q.block := by
  rintro q rfl
  obtain ⟨css, hl, ho, hr⟩ := h
  rcases ho.2 with ⟨hv, _⟩ | ⟨g, cap, cur, hv, hg, _⟩
  · cases hv
  · injection hv with h1 _ _
    injection h1 with h1
    subst h1
    exact hg
theorem AR5 : (Tryz.prog.underlying 65).map (·.isRow) = some true := by kernel_rfl
theorem IR5 : (Tryz.prog.info? 65).map (·.size) = some 5 := by kernel_rfl
theorem s3_of {w W : World} {n cI cG lI lG : Nat} {AI AG : Option Addr} {x1 x4 x5 u : Value} {q : Addr} (h : Blk W w.heap.size 44 [.int .i64 n, x1, .slice AI lI cI, .slice AG lG cG, x4, x5]) (hW : Below w.heap.size w W) (hq : w.cell? q = some u) :
    W.cell? ⟨w.heap.size, 3, none⟩ = some (.slice AG lG cG) ∧ W.cell? ⟨w.heap.size, 0, none⟩ = some (.int .i64 n) ∧ W.cell? q = some u := ⟨h.cell 3, h.cell 0, cell_kept hW hq⟩
theorem UG1 : Tryz.prog.underlying 63 = some (.slice 62) := by kernel_rfl
theorem IG1 : (Tryz.prog.info? 62).map (fun i => (i.zero, i.size, i.bytes)) = some (some (.slice none 0 0), 1, 24) := by kernel_rfl
set_option maxHeartbeats 16000000 in
set_option maxRecDepth 100000 in
theorem reals_tail (z : Zn) (cs : List Value) (w : World) (b1 base : Nat) (h : rzRd.R w b1 z cs) (hbase : base ≤ w.heap.size) (hb : z.bad = false) (hn1 : 1 ≤ z.N) (hn2 : z.N ≤ 256) (hL : z.Ids.length = z.G.length) (hC : rowB z.C z.N = true) (hR : rowB z.R z.N = true) :
    Calls Tryz.prog 24 #[.agg cs.toArray] w fun e w' => Below w.heap.size w w' ∧
      (((z.R.all (fun u => decide (0 ≤ fv u)) && (List.range z.Ids.length).all (idOk z)) = false ∧ e = .returned (.tuple #[.agg zc5.toArray, .bool false])) ∨
       ((z.R.all (fun u => decide (0 ≤ fv u)) && (List.range z.Ids.length).all (idOk z)) = true ∧ ∃ AC AI AG AR cC cI cG cR, e = .returned (.tuple #[.agg (realCs z AC AI AG AR cC cI cG cR).toArray, .bool true]) ∧ RRows w' base z AC AI AG AR ∧ ∀ q : Addr, AI = some q → w.heap.size ≤ q.block)) := by
  obtain ⟨AC, AI, AG, AR, cC, cI, cG, cR, rfl, hr, hl⟩ := h
  have HZ : Hid (∀ k, idOk z k = (decide (0 ≤ z.Ids.getD k 0) && decide (z.Ids.getD k 0 ≤ 1073741824) && (decide (k = 0) || decide (z.Ids.getD (k - 1) 0 < z.Ids.getD k 0)) && rowB (z.G.getD k []) z.N)) := fun _ => rfl
  obtain ⟨okf, hok⟩ : ∃ f, f = idOk z := ⟨_, rfl⟩
  rw [← hok] at HZ ⊢
  clear hok
  obtain ⟨N, C, Ids, G, R, bad⟩ := z
  simp only at hb hn1 hn2 hC hR hL HZ ⊢
  subst hb
  obtain ⟨n, rfl⟩ : ∃ n : Nat, N = n := ⟨N.toNat, by omega⟩
  have hCl : C.length = n := by unfold rowB at hC; simp only [Bool.and_eq_true, decide_eq_true_eq] at hC; omega
  have hRl : R.length = n := by unfold rowB at hR; simp only [Bool.and_eq_true, decide_eq_true_eq] at hR; omega
  have HNC := Lib.hid (fun W (hW : Below w.heap.size w W) => numbers_calls AC C C.length cC 50 b1 base n W rfl (hr.C.below hW) (by omega) (Nat.le_trans hbase hW.size))
  have HNR := Lib.hid (fun W (hW : Below w.heap.size w W) => numbers_calls AR R R.length cR 50 b1 base n W rfl (hr.R.below hW) (by omega) (Nat.le_trans hbase hW.size))
  have HNG := Lib.hid (fun B (l : List Nat) c W (hl : u64.Row 50 W b1 B l) (hb : base ≤ W.heap.size) => numbers_calls B l l.length c 50 b1 base n W rfl hl (by omega) hb)
  rw [hC] at HNC
  rw [hR] at HNR
  have HW := Lib.hid (rw_new w [.int .i64 n, .slice AC C.length cC, .slice AI Ids.length cI, .slice AG G.length cG, .slice AR R.length cR, .bool false] n)
  have HIDS := Lib.hid (fun W (hW : Below w.heap.size w W) => (show i64.Row 3 W b1 AI Ids from hr.I.below hW))
  have HG := Lib.hid (fun W (hW : Below w.heap.size w W) => (show (bsl 50 u64).Row 33 W b1 AG G from hr.G.below hW))
  have h1 : Ids.length ≤ 17592186044416 := hl.i.2
  have h2 : G.length ≤ 5864062014805 := hl.g.2
  have hd1 : decide ((n : Int) < 1) = false := by simp; omega
  have hd2 : decide (256 < (n : Int)) = false := by simp; omega
  have e1 : ((Ids.length : Int) != (G.length : Int)) = false := by simp; omega
  have HCL := Lib.hid hCl
  have HRL := Lib.hid hRl
  have HL := Lib.hid hL
  have hn256 : n ≤ 256 := by omega
  obtain ⟨ok, hok2⟩ : ∃ ok, (R.all (fun u => decide (0 ≤ fv u)) && (List.range Ids.length).all okf) = ok := ⟨_, rfl⟩
  rw [hok2]
  have HOK := Lib.hid hok2
  clear hr hl hL hC hR hCl hRl hn1 hn2 hok2
  go_enter Tryz.func24, Tryz.ntmps24
  go_wp2_with fail
  refine (HNC.out _ HW.out.W).mono ?_
  rintro e w1 ⟨B1, k1, c1, rfl, hk1, hW1, hC1⟩
  obtain ⟨hk1e, hrow1⟩ := hC1 trivial
  obtain rfl : n = k1 := (hk1e.trans HCL.out).symm
  have H1 := Lib.hid (HW.out.next hW1)
  have HR1 := Lib.hid hrow1
  obtain ⟨z0, _, _, _, z4, _⟩ := six H1.out.Z
  clear hW1 hC1 HNC HW hd1 hd2 e1 hk1e hrow1
  go_wp2_with fail
  refine (HNR.out _ H1.out.W).mono ?_
  rintro e w2 ⟨B2, k2, c2, rfl, hk2, hW2, hC2⟩
  obtain ⟨hk2e, hrow2⟩ := hC2 trivial
  obtain rfl : n = k2 := (hk2e.trans HRL.out).symm
  have H2 := Lib.hid (H1.out.next hW2)
  have x1 := H2.out.X.cell 1; have x4 := H2.out.X.cell 4; have g1 := H2.out.X.frozen 1; have g4 := H2.out.X.frozen 4
  have HS0 : Hid (RS w ((w2.setCell ⟨w.heap.size + 2, 1, none⟩ (.slice B1 n c1)).setCell ⟨w.heap.size + 2, 4, none⟩ (.slice B2 n c2)) base (rzCs n AC AI AG AR C.length cC Ids.length cI G.length cG R.length cR false) n C R B1 B2 c1 c2 (.slice none 0 0) (.slice none 0 0) [] []) := by
    have k2 : Keeps base [72, 113] w2 (w2.setCell ⟨w.heap.size + 2, 1, none⟩ (.slice B1 n c1)) := Keeps.set_blk H2.out.X (by omega) (by decide) 1 _
    have k3 := k2.trans (Keeps.set_blk (H2.out.setX 1 (.slice B1 n c1)).X (by omega) (by decide) 4 (.slice B2 n c2))
    exact ⟨(H2.out.setX 1 (.slice B1 n c1)).setX 4 (.slice B2 n c2), (HR1.out.below hW2).keep k3 (by simp) (by intro q hq; rw [nRd_E] at hq; simp at hq; simp [hq]), hrow2.keep k3 (by simp) (by intro q hq; rw [nRd_E] at hq; simp at hq; simp [hq]), Rd.Own.nil _ _ _ _ _, Rd.Own.nil _ _ _ _ _⟩
  clear hW2 hC2 HNR z0 z4 hk2e hrow2 H1 HR1
  go_wp2
  clear x1 x4 g1 g4
  rw [show w.heap.size + 1 + 1 = w.heap.size + 2 from rfl]
  obtain ⟨wo, hwo⟩ : ∃ wo, (w2.setCell ⟨w.heap.size + 2, 1, none⟩ (.slice B1 n c1)).setCell ⟨w.heap.size + 2, 4, none⟩ (.slice B2 n c2) = wo := ⟨_, rfl⟩
  rw [hwo] at HS0 ⊢
  clear hwo H2
  go_loopw [9] (fun i wr => ∃ k : Nat, k ≤ n ∧ i = .int .i64 k ∧ Hid ((R.take k).all (fun u => decide (0 ≤ fv u)) = true) ∧ Hid (RS w wr base (rzCs n AC AI AG AR C.length cC Ids.length cI G.length cG R.length cR false) n C R B1 B2 c1 c2 (.slice none 0 0) (.slice none 0 0) [] [])) (fun i _ => n - (intOf i).toNat)
  case atStart => exact ⟨0, by omega, rfl, rfl, HS0.out⟩
  case round =>
    obtain ⟨k, hk, rfl, hall, hS⟩ := hrel
    have z0 : wr.cell? ⟨w.heap.size, 0, none⟩ = some (.int .i64 n) := hS.out.rw.Z.cell 0
    by_cases hlt : k < n
    · obtain ⟨pa, neg, A2, n2, cc2, ex, rfl, ra, a0, a1, a2⟩ := nat_elem hS.out.R (i := k) (by rw [List.length_map, HRL.out]; exact hlt)
      have hxe : (R.map fv).getD k 0 = fv (R.getD k 0) := getD_map_fv (by rw [HRL.out]; exact hlt)
      obtain ⟨xu, hxu⟩ : ∃ x, R.getD k 0 = x := ⟨_, rfl⟩
      rw [hxe, hxu] at ra
      obtain ⟨x, hx⟩ : ∃ x, fv xu = x := ⟨_, rfl⟩
      rw [hx] at ra
      have HSG := sign_calls 1074 base x _ wr ra
      obtain ⟨s, hs⟩ : ∃ s, Int.sign x = s := ⟨_, rfl⟩
      have hneg : s < 0 ↔ x < 0 := by
        rw [← hs]
        rcases Int.lt_trichotomy x 0 with h | h | h
        · rw [Int.sign_eq_neg_one_of_neg h]; exact ⟨fun _ => h, fun _ => by decide⟩
        · rw [h]; exact ⟨fun h => absurd h (by decide), fun h => absurd h (by decide)⟩
        · rw [Int.sign_eq_one_of_pos h]; exact ⟨fun h => absurd h (by decide), fun h => absurd h (by omega)⟩
      rw [hs] at HSG
      have HSGH := Lib.hid HSG
      have HXU := Lib.hid hxu
      have HX := Lib.hid hx
      have HNEG := Lib.hid hneg
      have hi1 : (k : Int) < (n : Int) := by omega
      clear ra hxe hxu hx hs HSG hneg
      by_cases hs0 : s < 0
      · have d0 : decide (s < 0) = true := decide_eq_true hs0
        have HF : Hid (R.all (fun u => decide (0 ≤ fv u)) = false) := all_take_false (by rw [HRL.out]; exact hlt) HXU.out (decide_eq_false (by rw [HX.out]; have := HNEG.out.1 hs0; omega))
        clear hs0
        go_wp2_with fail
        refine HSGH.out.mono ?_
        rintro e w3 ⟨rfl, hW3⟩
        have H3 := Lib.hid (hS.out.next hW3)
        obtain ⟨o0, o1, o2, o3, o4⟩ := five H3.out.rw.O
        have of := H3.out.rw.ofz
        obtain ⟨t0, t1, t2, t3, t4⟩ := five H3.out.rw.zero.1
        clear hW3 z0 a0 a1 a2
        go_wp2
        refine bodyPost_ret (v := .tuple #[.agg zc5.toArray, .bool false]) (by simp [results, Tryz.results24, go_sem, t0, t1, t2, t3, t4]) rfl ⟨H3.out.rw.zero.2, .inl ⟨by rw [← HOK.out, HF.out]; rfl, rfl⟩⟩
      · have d0 : decide (s < 0) = false := decide_eq_false hs0
        have HT : Hid ((R.take (k + 1)).all (fun u => decide (0 ≤ fv u)) = true) := by rw [Hid, all_take_step (by rw [HRL.out]; exact hlt) HXU.out, hall.out, decide_eq_true (show 0 ≤ fv xu from Classical.byContradiction fun h => hs0 (HNEG.out.2 (by rw [← HX.out]; omega)))]; rfl
        clear hs0
        go_wp2_with fail
        refine HSGH.out.mono ?_
        rintro e w3 ⟨rfl, hW3⟩
        have H3 := Lib.hid (hS.out.next hW3)
        clear hW3 z0 a0 a1 a2
        go_wp2
        go_roundw
        case rel => exact ⟨k + 1, by omega, by go_num, HT.out, H3.out⟩
        case measure => simp [intOf]; omega
    · obtain rfl : n = k := by omega
      have hall2 : Hid (R.all (fun u => decide (0 ≤ fv u)) = true) := by have := hall.out; rw [← HRL.out, List.take_length] at this; exact this
      go_wp2
      clear z0 hlt
      go_loopw [10, 11, 12] (fun i _ _ wr => ∃ (k : Nat) (vA gA : Option Addr) (vc gc : Nat), k ≤ Ids.length ∧ i = .int .i64 k ∧ Hid ((List.range k).all okf = true) ∧ Hid (RS w wr base (rzCs n AC AI AG AR C.length cC Ids.length cI G.length cG R.length cR false) n C R B1 B2 c1 c2 (.slice vA k vc) (.slice gA k gc) (Ids.take k) ((G.map (fun g => g.map fv)).take k))) (fun i _ _ _ => Ids.length - (intOf i).toNat)
      case atStart => exact ⟨0, none, none, 0, 0, by omega, rfl, rfl, hS.out⟩
      case round =>
        obtain ⟨k, vA, gA, vc, gc, hk, rfl, hall, hS⟩ := hrel
        have hS0 := hS
        obtain ⟨Ik, hIk⟩ : ∃ g, Ids.take k = g := ⟨_, rfl⟩
        obtain ⟨Gk, hGk⟩ : ∃ g, (G.map (fun g => g.map fv)).take k = g := ⟨_, rfl⟩
        rw [hIk, hGk] at hS
        have HIK := Lib.hid hIk
        have HGK := Lib.hid hGk
        clear hIk hGk
        have c2' : wr.cell? ⟨w.heap.size, 2, none⟩ = some (.slice AI Ids.length cI) := hS.out.rw.Z.cell 2
        have o0 := hS.out.rw.O.cell 0; have o1 := hS.out.rw.O.cell 1; have o2 := hS.out.rw.O.cell 2; have o3 := hS.out.rw.O.cell 3; have o4 := hS.out.rw.O.cell 4
        have of := hS.out.rw.ofz
        by_cases hlt : k < Ids.length
        · obtain ⟨a, x, rfl, hcx, hxb, hxe⟩ := i64at (HIDS.out wr hS.out.rw.W) hlt
          obtain ⟨b, B, l, c, rfl, hcg, hge, hlc, hlC, hrow⟩ := bsl_at (HG.out w (Below.refl _ _)) (i := k) (by have := HL.out; omega)
          have HROW := Lib.hid (fun W (hW : Below w.heap.size w W) => (show u64.Row 50 W b1 B l from hrow.below hW))
          obtain ⟨rr, hrr⟩ : ∃ r, rowB l n = r := ⟨_, rfl⟩
          have hkg : k < G.length := by have := HL.out; omega
          have HRR := Lib.hid hrr
          have hi1 : (k : Int) < (Ids.length : Int) := by omega
          have hi2 : (k : Int) < (G.length : Int) := by omega
          have hi3 : (0 : Int) ≤ (k : Int) := by omega
          have HN := Lib.hid (fun W (hW : Below wr.heap.size wr W) => HNG.out B l c W (HROW.out W (below_next hS.out.rw.W hW)) (Nat.le_trans hbase (below_next hS.out.rw.W hW).size))
          rw [hrr] at HN
          have T := fun q => five (hS.out.rw.drewN q).zero.1
          clear hrow hrr
          by_cases hx1 : x < 0
          · have e1 : decide (x < 0) = true := by simpa using hx1
            have HF : Hid ((List.range Ids.length).all okf = false) := range_all_false hlt (by rw [HZ.out, hxe.out, decide_eq_false (by omega)]; rfl)
            clear hx1
            go_wp2
            go_quiet (fail)
            go_wp2
            refine bodyPost_ret (v := .tuple #[.agg zc5.toArray, .bool false]) (by simp [results, Tryz.results24, go_sem, T]) rfl ⟨(hS.out.rw.drewN _).zero.2, .inl ⟨by rw [← HOK.out, HF.out, hall2.out]; rfl, rfl⟩⟩
          · have e1 : decide (x < 0) = false := by simpa using hx1
            by_cases hx2 : 1073741824 < x
            · have e2 : decide (1073741824 < x) = true := by simpa using hx2
              have HF : Hid ((List.range Ids.length).all okf = false) := range_all_false hlt (by rw [HZ.out, hxe.out, decide_eq_true (show 0 ≤ x by omega), decide_eq_false (show ¬ x ≤ 1073741824 by omega)]; rfl)
              clear hx1 hx2
              go_wp2
              go_quiet (fail)
              go_wp2
              refine bodyPost_ret (v := .tuple #[.agg zc5.toArray, .bool false]) (by simp [results, Tryz.results24, go_sem, T]) rfl ⟨(hS.out.rw.drewN _).zero.2, .inl ⟨by rw [← HOK.out, HF.out, hall2.out]; rfl, rfl⟩⟩
            · have e2 : decide (1073741824 < x) = false := by simpa using hx2
              by_cases hbadk : k ≠ 0 ∧ x ≤ Ids.getD (k - 1) 0
              · obtain ⟨hk0, hxy⟩ := hbadk
                have e3 : decide ((0 : Int) < (k : Int)) = true := by simp; omega
                have e3' : decide (0 < k) = true := by simp; omega
                obtain ⟨a', y, ha', hcy, hyb, hye⟩ := i64at (HIDS.out wr hS.out.rw.W) (i := k - 1) (by omega)
                cases ha'
                rw [hye.out] at hxy
                have e4 : IntKind.i64.wrap ((k : Int) - 1) = (k : Int) - 1 := IntWalk.i64_in _ (by omega)
                have e5 : ((k : Int) - 1).toNat = k - 1 := by omega
                have e6 : (0 : Int) ≤ (k : Int) - 1 := by omega
                have e7 : (k : Int) - 1 < (Ids.length : Int) := by omega
                have e8 : decide (x ≤ y) = true := by simpa using hxy
                have HF : Hid ((List.range Ids.length).all okf = false) := range_all_false hlt (by rw [HZ.out, hxe.out, hye.out, decide_eq_false hk0, decide_eq_false (show ¬ y < x by omega)]; simp)
                clear hx1 hx2 hxy hk0
                go_wp2
                go_quiet (fail)
                clear e4 e5 e6 e7
                go_wp2
                refine bodyPost_ret (v := .tuple #[.agg zc5.toArray, .bool false]) (by simp [results, Tryz.results24, go_sem, T]) rfl ⟨(hS.out.rw.drewN _).zero.2, .inl ⟨by rw [← HOK.out, HF.out, hall2.out]; rfl, rfl⟩⟩
              · have HT : Hid (rr = true → (List.range (k + 1)).all okf = true) := by
                  intro hrt
                  refine range_all_step hall.out ?_
                  rw [HZ.out, hxe.out, hge.out, HRR.out, hrt, decide_eq_true (show 0 ≤ x by omega), decide_eq_true (show x ≤ 1073741824 by omega)]
                  by_cases h0 : k = 0
                  · rw [decide_eq_true h0]; rfl
                  · rw [decide_eq_true (show Ids.getD (k - 1) 0 < x by have := fun h => hbadk ⟨h0, h⟩; omega)]; simp
                have HFF : Hid (rr = false → (List.range Ids.length).all okf = false) := by
                  intro hrt
                  exact range_all_false hlt (by rw [HZ.out, hge.out, HRR.out, hrt]; simp)
                have c3' : wr.cell? ⟨w.heap.size, 3, none⟩ = some (.slice (some b) G.length cG) := hS.out.rw.Z.cell 3
                have c0' : wr.cell? ⟨w.heap.size, 0, none⟩ = some (.int .i64 n) := hS.out.rw.Z.cell 0
                have hcg' : wr.cell? (b.add k) = some (.slice B l.length c) := cell_kept hS.out.rw.W hcg
                by_cases hk0 : k = 0
                case' pos =>
                  have e3 : decide ((0 : Int) < (k : Int)) = false := by simp; omega
                  have e3' : decide (0 < k) = false := by simp; omega
                  have HK := Lib.hid hk0
                  clear hk0 hbadk hx1 hx2
                  go_wp2
                  go_quiet (fail)
                case' neg =>
                  have e3 : decide ((0 : Int) < (k : Int)) = true := by simp; omega
                  have e3' : decide (0 < k) = true := by simp; omega
                  obtain ⟨a', y, ha', hcy, hyb, hye⟩ := i64at (HIDS.out wr hS.out.rw.W) (i := k - 1) (by omega)
                  cases ha'
                  have e4 : IntKind.i64.wrap ((k : Int) - 1) = (k : Int) - 1 := IntWalk.i64_in _ (by omega)
                  have e5 : ((k : Int) - 1).toNat = k - 1 := by omega
                  have e6 : (0 : Int) ≤ (k : Int) - 1 := by omega
                  have e7 : (k : Int) - 1 < (Ids.length : Int) := by omega
                  have hxy : ¬ x ≤ y := by rw [← hye.out]; exact fun h => hbadk ⟨hk0, h⟩
                  have e8 : decide (x ≤ y) = false := by simpa using hxy
                  have HK := Lib.hid hk0
                  clear hk0 hbadk hx1 hx2 hxy
                  go_wp2
                  go_quiet (fail)
                  clear e4 e5 e6 e7 hcy e8 hyb
                all_goals
                  clear e1 e2 e3 e3' T o0 o1 o2 o3 o4 of
                  go_wp2_with fail
                  go_region_held3 (fun W => W.cell? ⟨w.heap.size, 3, none⟩ = some (.slice (some b) G.length cG) ∧ W.cell? ⟨w.heap.size, 0, none⟩ = some (.int .i64 n) ∧ W.cell? (b.add k) = some (.slice B l.length c))
                    (first | (with_reducible exact s3_of H3.out.rw.Z H3.out.rw.W hcg) | ((try dsimp only); (repeat' apply And.intro) <;> go_keep))
                    ((go_at_call 58; refine (HN.out _ (by repeat (first | exact Below.refl _ _ | (with_reducible apply below_drewN) | (with_reducible apply Below.drew)))).mono ?_; rintro e w3 ⟨B3, k3, c3, rfl, hk3, hW3, hC3⟩; have H3 := Lib.hid (hS.out.next (below_next (by repeat (first | exact Below.refl _ _ | (with_reducible apply below_drewN) | (with_reducible apply Below.drew))) hW3)); have HC3 := Lib.hid (And.intro hk3 hC3); clear hW3 hC3 hk3))
                  cases rr
                  · have HF : Hid ((List.range Ids.length).all okf = false) := HFF.out rfl
                    have T := five H3.out.rw.zero.1
                    obtain ⟨T0, T1, T2, T3, T4⟩ := T
                    have o0 := H3.out.rw.O.cell 0; have o1 := H3.out.rw.O.cell 1; have o2 := H3.out.rw.O.cell 2; have o3 := H3.out.rw.O.cell 3; have o4 := H3.out.rw.O.cell 4
                    have of := H3.out.rw.ofz
                    clear c3' c0' hcg' c2' hcx
                    go_wp2
                    refine bodyPost_ret (v := .tuple #[.agg zc5.toArray, .bool false]) (by simp [results, Tryz.results24, go_sem, T0, T1, T2, T3, T4]) rfl ⟨H3.out.rw.zero.2, .inl ⟨by rw [← HOK.out, HF.out, hall2.out]; rfl, rfl⟩⟩
                  · obtain ⟨hk3c, hC3'⟩ := HC3.out
                    obtain ⟨hk3e, hrow3⟩ := hC3' rfl
                    obtain rfl : l.length = k3 := hk3e.symm
                    have HTT := Lib.hid (HT.out rfl)
                    have HR3 : Hid (gRd.R w3 base (l.map fv) [.slice B3 l.length c3]) := ⟨⟨B3, c3, by show [Value.slice B3 l.length c3] = [Value.slice B3 (l.map fv).length c3]; rw [List.length_map], by show (l.map fv).length ≤ c3; rw [List.length_map]; exact hk3c, hrow3⟩, by show (l.map fv).length ≤ _; rw [List.length_map]; exact hlC⟩
                    have c2d : w3.cell? ⟨w.heap.size, 2, none⟩ = some (.slice (some a) Ids.length cI) := H3.out.rw.Z.cell 2
                    have c2x : w3.cell? ⟨w.heap.size + 2, 2, none⟩ = some (.slice vA k vc) := H3.out.rw.X.cell 2
                    have hcx3 : w3.cell? (a.add k) = some (.int .i64 x) := by
                      obtain ⟨a', x', ha', hcx', _, hxe'⟩ := i64at (HIDS.out w3 H3.out.rw.W) hlt
                      cases ha'
                      rw [← hxe.out, hxe'.out]; exact hcx'
                    have hw3s := H3.out.rw.W.size
                    have hx3 := H3.out.rw.X.lt
                    have hlenI : (Ik.length + 1) * 8 ≤ 140737488355328 := by rw [← HIK.out, List.length_take]; omega
                    have HI3 : Hid (i64.Own 3 w3.drew w.heap.size base (.slice vA k vc) Ik) := H3.out.drew.I
                    have hl1 : Hid ((Ik ++ [x]).length = k + 1) := by rw [← HIK.out]; simp only [Hid, List.length_append, List.length_take]; simp; omega
                    have hTI : Hid (Ik ++ [x] = Ids.take (k + 1)) := by rw [Hid, ← HIK.out, List.take_succ_eq_append_getElem hlt, ← hxe.out, List.getD_eq_getElem?_getD, List.getElem?_eq_getElem hlt]; rfl
                    have hTG : Hid (Gk ++ [l.map fv] = (G.map (fun g => g.map fv)).take (k + 1)) := by
                      have hkm : k < (G.map (fun g => g.map fv)).length := by rw [List.length_map]; exact hkg
                      rw [Hid, ← HGK.out, List.take_succ_eq_append_getElem hkm, List.getElem_map, ← hge.out, List.getD_eq_getElem?_getD, List.getElem?_eq_getElem hkg]; rfl
                    have hl2 : Hid ((Gk ++ [l.map fv]).length = k + 1) := by rw [Hid, hTG.out, List.length_take, List.length_map]; omega
                    have hlenG : (Gk.length + 1) * 24 ≤ 140737488355328 := by rw [← HGK.out, List.length_take, List.length_map]; omega
                    obtain ⟨lm, hlm⟩ : ∃ m, l.map fv = m := ⟨_, rfl⟩
                    rw [hlm] at HR3 hTG hl2
                    clear hlm hC3' hk3e hrow3 HC3 c3' c0' hcg' c2' hcx HFF HT hcg
                    go_wp2_with fail
                    go_region_law ((refine own_step i64 w3.heap.size w.heap.size base (by rfl) (by rfl) _ _ 40 3 (.int .i64 0) 8 (by rfl) UI1 II1 rfl (by decide) (by decide) _ Ik x [.int .i64 x] (by rfl) (by rfl) ⟨rfl, hxb⟩ (by decide) HI3.out hbase hw3s hlenI ?_; intro v1 w4 hO1 hg1; obtain ⟨vA1, vc1, hv1, _, _⟩ := hO1.row; rw [hl1.out] at hv1; subst hv1; have H45 := Lib.hid (RS.appI H3.out.drew hbase hO1 hg1); have x2 := H45.out.2.1.X.cell 2; have f2 := H45.out.2.1.X.frozen 2; clear hO1 hg1))
                    all_goals
                      have H5 := Lib.hid H45.out.1
                      have HR5 := Lib.hid (gRd.keep HR3.out (show Keeps base gRd.E w3 _ from H45.out.2.2.sub (by intro q hq; rw [gRd_E] at hq; simp at hq; rcases hq with hq | hq <;> simp [hq])))
                      clear H45 x2 f2 c2d c2x hcx3
                      obtain ⟨w5, hw5⟩ : ∃ W, w4.setCell ⟨w.heap.size + 2, 2, none⟩ (.slice vA1 (k + 1) vc1) = W := ⟨_, rfl⟩
                      rw [hw5] at H5 HR5 ⊢
                      clear hw5
                      have x3 := H5.out.rw.X.cell 3
                      have hw5s := H5.out.rw.W.size
                      go_wp2_with (at_builtin; refine own_append' gRd w5.heap.size w.heap.size base rfl rfl _ _ 63 62 (.slice none 0 0) 24 (by rfl) UG1 IG1 rfl (by decide) (by decide) _ Gk lm [.slice B3 l.length c3] (by rfl) (by rfl) HR5.out (by decide) H5.out.G hbase hw5s hlenG ?_; intro v2 w6 hO2 hg2; obtain ⟨gA1, gc1, hv2, _, _⟩ := hO2.row; rw [hl2.out] at hv2; subst hv2; have H67 := Lib.hid (RS.appG H5.out hbase hO2 hg2); have y3 := H67.out.2.X.cell 3; have g3 := H67.out.2.X.frozen 3; clear hO2 hg2)
                      go_roundw
                      case rel => exact ⟨k + 1, vA1, gA1, vc1, gc1, by omega, by go_num, HTT.out, by have := H67.out.1; rw [hTI.out, hTG.out] at this; exact this⟩
                      case measure => simp [intOf]; omega
        · obtain rfl : k = Ids.length := by omega
          clear hS HIK HGK
          have hS := hS0
          have HALL : Hid ((List.range Ids.length).all okf = true) := hall.out
          obtain ⟨x0, x1, x2, x3, x4⟩ := five hS.out.rw.X
          obtain ⟨s1, s2, s3⟩ := set5 (base := base) (B := w.heap.size) (E := [72, 113, 62, 3]) (w0 := w) (.int .i64 n) (.slice B1 n c1) (.slice vA Ids.length vc) (.slice gA Ids.length gc) (.slice B2 n c2) hS.out.rw.O (by omega) (by decide) (by omega) hS.out.rw.W
          obtain ⟨t0, t1, t2, t3, t4⟩ := five s1
          have HS3 := Lib.hid (And.intro s2 s3)
          clear s1 s2 s3 hlt
          go_wp2
          refine bodyPost_ret (v := .tuple #[.agg #[.int .i64 n, .slice B1 n c1, .slice vA Ids.length vc, .slice gA Ids.length gc, .slice B2 n c2], .bool true]) (by simp [results, Tryz.results24, go_sem, t0, t1, t2, t3, t4]) rfl ⟨HS3.out.2, .inr ⟨by rw [← HOK.out, HALL.out, hall2.out]; rfl, B1, vA, gA, B2, c1, vc, gc, c2, by unfold realCs; rw [HCL.out, HRL.out, ← HL.out], ?_, own_new hS.out.I⟩⟩
          have k1 := HS3.out.1
          refine ⟨hS.out.C.keep k1 (by simp) (by intro q hq; rw [nRd_E] at hq; simp at hq; simp [hq]), ?_, ?_, hS.out.R.keep k1 (by simp) (by intro q hq; rw [nRd_E] at hq; simp at hq; simp [hq])⟩
          · obtain ⟨A', c', hv, _, hrow⟩ := hS.out.I.row
            rw [List.take_length] at hrow
            injection hv with e1 _ _
            subst e1
            exact hrow.keep k1 (by simp) (by intro q hq; cases hq)
          · obtain ⟨A', c', hv, _, hrow⟩ := hS.out.G.row
            rw [HL.out, show G.length = (G.map (fun g => g.map fv)).length from (List.length_map _).symm, List.take_length] at hrow
            injection hv with e1 _ _
            subst e1
            exact hrow.keep k1 (by simp) (by intro q hq; rw [gRd_E] at hq; simp at hq; rcases hq with hq | hq <;> simp [hq])
end Go.Proofs.YtcfejobdgiiihaaGreatDoor
