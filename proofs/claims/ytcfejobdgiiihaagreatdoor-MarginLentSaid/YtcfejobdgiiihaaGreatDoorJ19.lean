/- Walks and plain laws of this seat's functions, part 19: D1 D6 D7 D8. -/
import Derived.Deep.DrawnRows
import Derived.ArgAppend
import Derived.Test.YtcfejobdgiiihaaGreatDoorJ16
import Derived.Test.YtcfejobdgiiihaaGreatDoorJ18
set_option linter.unusedVariables false
set_option linter.unusedSimpArgs false
namespace Go.Proofs.YtcfejobdgiiihaaGreatDoor
open Go.RowKit

theorem own_f64 {w : World} {b base t : Nat} {v : Value} {xs : List Nat} (h : w.ownsRow b t 1 v xs.length (f64s xs)) (hb : ∀ x ∈ xs, x < B64) : f64.Own t w b base v xs := by
  refine ⟨xs.map fun x => [.float .f64 x], by simp, ?_, ?_⟩
  · have : ∀ ys : List Nat, (ys.map fun x => [Value.float .f64 x]).flatten = f64s ys := by
      intro ys
      induction ys with
      | nil => rfl
      | cons x ys ih => rw [List.map_cons, List.flatten_cons, ih]; rfl
    rw [this]; exact h
  · intro i x c h1 h2
    simp only [List.getElem?_map, h1, Option.map_some, Option.some.injEq] at h2
    subst h2
    exact ⟨rfl, hb x (List.mem_of_getElem? h1)⟩
/-- own lists, read as lists -/
theorem ol_row {t : Nat} {w : World} {b0 base : Nat} {v : Value} {es : List OL} {ls : List (List Nat)} (h : olRd.Own t w b0 base v es) (hl : es.map (·.l) = ls) :
    ∃ A c, v = .slice A ls.length c ∧ ls.length ≤ c ∧ (bsl 47 f64).Row t w base A ls := by
  subst hl
  obtain ⟨A, c, rfl, hc, hr⟩ := h.row
  refine ⟨A, c, by rw [List.length_map], by rw [List.length_map]; exact hc, ?_⟩
  intro i l hi
  simp only [List.getElem?_map] at hi
  obtain ⟨e, he, rfl⟩ : ∃ e, es[i]? = some e ∧ e.l = l := by
    cases h0 : es[i]? with
    | none => rw [h0] at hi; simp at hi
    | some e => rw [h0] at hi; simp at hi; exact ⟨e, rfl, hi⟩
  obtain ⟨a, cs, h1, h2, h3, ⟨h4, h5⟩, h6⟩ := hr i e he
  refine ⟨a, cs, h1, h2, h3, ?_, h6⟩
  obtain ⟨A', c', hv, hc', hr'⟩ := (own_f64 (base := base) h5.own h5.bd).row
  exact ⟨⟨A', c', by rw [h4, hv]; rfl, hc', hr'⟩, by have := h5.len; omega⟩
set_option maxHeartbeats 4000000 in
set_option maxRecDepth 100000 in
theorem claims_law_big (p : Pr) (cs : List Value) (m : Int) (w : World) (base : Nat) (h : prRd.R w base p cs) (hL : 300 < p.L.length) :
    Calls Tryz.prog 3 #[.agg cs.toArray, .int .i64 m] w fun e w' => e = .returned (.bool true) ∧ Below w.heap.size w w' := by
  obtain ⟨AC, AG, AL, cC, cG, cL, rfl, hr, hl⟩ := h
  obtain ⟨C, G, T, L, K, D, S⟩ := p
  simp only at hL ⊢
  have hl2 : L.length ≤ 17592186044416 := Nat.le_trans hl.l.2 (by decide)
  have hW := Lib.hid (below_new (Below.refl w.heap.size w) (.cells #[.slice AC C.length cC, .slice AG G.length cG, .int .i64 T, .slice AL L.length cL, .int .i64 K, .int .i64 D, .int .i64 S] 25))
  have HA := Lib.hid (fun W => awake_calls W)
  have d1 : (300 : Int) < (L.length : Int) := by omega
  clear hr hl hL
  go_enter Tryz.func3, Tryz.ntmps3
  go_wp2_with fail
  refine (HA.out _).mono ?_
  rintro e w2 ⟨rfl, h2⟩
  have H2 := Lib.hid (below_next hW.out h2)
  clear h2
  go_wp2
  go_ret
  exact ⟨rfl, H2.out⟩
set_option maxHeartbeats 4000000 in
set_option maxRecDepth 100000 in
theorem claims_law (p : Pr) (cs : List Value) (m : Int) (w : World) (base : Nat) (h : prRd.R w base p cs) (hL : p.L.length ≤ 300) (hbase : base ≤ w.heap.size) :
    Calls Tryz.prog 3 #[.agg cs.toArray, .int .i64 m] w fun e w' => e = .returned (.bool true) ∧ Below w.heap.size w w' := by
  have HH := Lib.hid h
  have HCL := Lib.hid (fun W (hW : Below w.heap.size w W) => mclaims_calls p cs m W base (prRd.below h hW) (by omega))
  have HOP := Lib.hid (fun W (hW : Below w.heap.size w W) => ofprop_calls p cs W base base (prRd.below h hW) (Nat.le_trans hbase hW.size))
  have HRC := Lib.hid (fun cs' W (hr : rpRd.R W base p cs') (hW : Below w.heap.size w W) => rclaims_calls p cs' m W base base hr (by omega) (Nat.le_trans hbase hW.size))
  have HN : Hid (∀ ls, ls = (if errS p m = 0 then claimsL p m else []) → ls.length ≤ 1000) := by
    rintro ls rfl
    split
    · rename_i h0
      have hm : m ≤ 256 := by
        unfold errS at h0
        split at h0
        · cases h0
        · rename_i hb
          simp only [tbadB, Bool.or_eq_true, decide_eq_true_eq, not_or] at hb
          omega
      unfold claimsL
      rw [List.length_append]
      have h2 : (if 0 ≤ p.T then rowsS m.toNat p.T.toNat m.toNat else []).length ≤ m.toNat := by
        split
        · exact rowsS_len _ _ _
        · exact Nat.zero_le _
      omega
    · simp
  obtain ⟨ls, hls⟩ : ∃ ls, ls = (if errS p m = 0 then claimsL p m else []) := ⟨_, rfl⟩
  have hlen : ls.length ≤ 1000 := HN.out ls hls
  have HLS := Lib.hid hls
  obtain ⟨er, her⟩ : ∃ er, errS p m = er := ⟨_, rfl⟩
  have HER := Lib.hid her
  clear HN hls her
  obtain ⟨AC, AG, AL, cC, cG, cL, rfl, hr, hl⟩ := h
  obtain ⟨C, G, T, L, K, D, S⟩ := p
  simp only at hL ⊢
  have hl2 : L.length ≤ 17592186044416 := Nat.le_trans hl.l.2 (by decide)
  have hW := Lib.hid (below_new (Below.refl w.heap.size w) (.cells #[.slice AC C.length cC, .slice AG G.length cG, .int .i64 T, .slice AL L.length cL, .int .i64 K, .int .i64 D, .int .i64 S] 25))
  have hB := Lib.hid (Blk.new w #[.slice AC C.length cC, .slice AG G.length cG, .int .i64 T, .slice AL L.length cL, .int .i64 K, .int .i64 D, .int .i64 S] 25)
  have HA := Lib.hid (fun W => awake_calls W)
  have d1 : ¬ (300 : Int) < (L.length : Int) := by omega
  clear hr hl hL
  go_enter Tryz.func3, Tryz.ntmps3
  go_wp2_with fail
  refine (HCL.out _ hW.out).mono ?_
  rintro e w2 ⟨v, es, rfl, hO, hNd, hE, hW2⟩
  obtain ⟨A, c, rfl, hc, hrow⟩ := ol_row hO (hE.trans HLS.out.symm)
  rw [HER.out]
  have HR := Lib.hid hrow
  have H2 := Lib.hid (below_next hW.out hW2)
  have HB2 := Lib.hid (Blk.below' hB.out hW2)
  obtain ⟨c0, c1, c2, c3, c4, c5, c6⟩ := seven HB2.out
  clear hO hNd hE hW2 HCL hrow
  go_wp2_with fail
  refine (HOP.out _ H2.out).mono ?_
  rintro e w3 ⟨cs3, rfl, hr3, hW3⟩
  have H3 := Lib.hid (below_next H2.out hW3)
  have HR3 := Lib.hid hr3
  have HRW := Lib.hid (Rd.Row.below HR.out hW3)
  clear hr3 hW3 HOP c0 c1 c2 c3 c4 c5 c6 HB2 HR
  go_wp2_with fail
  refine (HRC.out cs3 _ HR3.out H3.out).mono ?_
  rintro e w4 ⟨B4, c4, ls4, rfl, hl4, hc4, hr4, hW4⟩
  obtain rfl : ls4 = ls := hl4.out.trans HLS.out.symm
  rw [HER.out]
  have H4 := Lib.hid (below_next H3.out hW4)
  have HR4 := Lib.hid hr4
  have HRW4 := Lib.hid (Rd.Row.below HRW.out hW4)
  have HLI := Lib.hid (lists_calls A ls4 ls4.length c 22 47 _ w4.heap.size w4 rfl HRW4.out (by omega) (Nat.le_refl _))
  clear hl4 hr4 hW4 HRC HRW HR3
  go_wp2_with fail
  refine HLI.out.mono ?_
  rintro e w5 ⟨B5, c5, rfl, hc5, hr5, hW5⟩
  have H5 := Lib.hid (below_next H4.out hW5)
  have HSL := Lib.hid (samelists_calls B5 B4 ls4 ls4 ls4.length ls4.length c5 c4 33 33 50 50 _ _ w5 rfl rfl hr5 (Rd.Row.below HR4.out hW5) (by omega) (by omega))
  rw [show decide (ls4 = ls4) = true from decide_eq_true rfl] at HSL
  clear hr5 hW5 HLI
  go_wp2_with fail
  refine HSL.out.mono ?_
  rintro e w6 ⟨rfl, q, rfl⟩
  go_wp2_with fail
  refine (HA.out _).mono ?_
  rintro e w7 ⟨rfl, h7⟩
  have H7 := Lib.hid (below_next (below_drewN H5.out q) h7)
  clear h7
  go_wp2
  go_ret
  exact ⟨rfl, H7.out⟩
end Go.Proofs.YtcfejobdgiiihaaGreatDoor

namespace Go.Proofs.YtcfejobdgiiihaaGreatDoor
open Go.RowKit
attribute [local go_sem ↓] Go.wp_at_zero Go.wp_at_succ

/-! ### marks: stand -/
def mkS (i n : Nat) : List Nat := (List.range n).map fun j => 1000 * i + j
def lgS (i n : Nat) : List Nat := mkS i n ++ (List.range 9).map fun j => 1000 * i + j + 500000000
def mksL (lens : List Nat) : List (List Nat) := (List.range lens.length).map fun i => mkS i (lens.getD i 0)
def lgsL (lens : List Nat) : List (List Nat) := (List.range lens.length).map fun i => lgS i (lens.getD i 0)
theorem mkS_len (i n : Nat) : (mkS i n).length = n := by simp [mkS]
theorem lgS_len (i n : Nat) : (lgS i n).length = n + 9 := by simp [lgS, mkS_len]
theorem mksL_len (l : List Nat) : (mksL l).length = l.length := by simp [mksL]
theorem lgsL_len (l : List Nat) : (lgsL l).length = l.length := by simp [lgsL]
theorem mksL_at {l : List Nat} {i : Nat} (h : i < l.length) : (mksL l).getD i [] = mkS i (l.getD i 0) := by simp [mksL, h]
theorem lgsL_at {l : List Nat} {i : Nat} (h : i < l.length) : (lgsL l).getD i [] = lgS i (l.getD i 0) := by simp [lgsL, h]
theorem mkS_at {i n j : Nat} (h : j < n) : (mkS i n).getD j 0 = 1000 * i + j := by simp [mkS, h]
theorem lgS_at {i n j : Nat} (h : j < 9) : (lgS i n).getD (n + j) 0 = 1000 * i + j + 500000000 := by
  rw [List.getD_eq_getElem?_getD, lgS, List.getElem?_append_right (by rw [mkS_len]; omega), mkS_len, Nat.add_sub_cancel_left]
  simp [h]
set_option maxHeartbeats 4000000 in
set_option maxRecDepth 100000 in
theorem stand_calls (A B : Option Addr) (lens : List Nat) (n cA cB b1 b2 : Nat) (w : World) (hn : lens.length = n) (hA : (bsl 47 f64).Row 22 w b1 A (mksL lens)) (hB : (bsl 47 f64).Row 22 w b2 B (lgsL lens)) (hl : n ≤ 1000000) (hll : ∀ i, lens.getD i 0 ≤ 1000000) :
    Calls Tryz.prog 73 #[.slice A n cA, .slice B n cB] w fun e w' => e = .returned (.bool true) ∧ ∃ q, w' = w.drewN q := by
  subst hn
  have HLL := Lib.hid hll
  have HAB := Lib.hid (fun x W => apibits_calls x W)
  go_enter Tryz.func73, Tryz.ntmps73
  go_wp2
  go_loopw [5, 6, 7] (fun i _ _ wr => ∃ (k : Nat), i = .int .i64 k ∧ k ≤ lens.length ∧ Hid (∃ q, wr = w.drewN q)) (fun i _ _ _ => lens.length - (intOf i).toNat)
  case atStart => exact ⟨0, rfl, Nat.zero_le _, 0, rfl⟩
  case round =>
    obtain ⟨k, rfl, hk, hQ⟩ := hrel
    by_cases hlt : k < lens.length
    · obtain ⟨a, A2, xs, ca, rfl, hca, hxe, hlc, hlC, hra⟩ := bsl_at hA (i := k) (by rw [mksL_len]; exact hlt)
      obtain ⟨b, B2, ys, cb, rfl, hcb, hye, hld, hlD, hrb⟩ := bsl_at hB (i := k) (by rw [lgsL_len]; exact hlt)
      have hm : lens.getD k 0 ≤ 1000000 := HLL.out k
      obtain ⟨m, hme⟩ : ∃ m, lens.getD k 0 = m := ⟨_, rfl⟩
      rw [hme] at hm
      have hxs : xs = mkS k m := by rw [← hxe.out, mksL_at hlt, hme]
      have hys : ys = lgS k m := by rw [← hye.out, lgsL_at hlt, hme]
      subst hxs hys
      rw [mkS_len] at hca
      rw [lgS_len] at hcb
      have hlx : (k : Int) < (lens.length : Int) := by omega
      have hl0 : (0 : Int) ≤ (k : Int) := by omega
      obtain ⟨q0, hq0⟩ := hQ.out
      subst hq0
      clear hxe hye hme hlc hlC hld hlD
      go_wp2
      go_loopw [6] (fun jv wr => ∃ (j : Nat), jv = .int .i64 j ∧ j ≤ m ∧ Hid (∃ q, wr = w.drewN q)) (fun jv _ => m - (intOf jv).toNat)
      case atStart => exact ⟨0, rfl, Nat.zero_le _, q0, rfl⟩
      case round =>
        obtain ⟨j, rfl, hj, hQ2⟩ := hrel
        obtain ⟨q1, hq1⟩ := hQ2.out
        subst hq1
        by_cases hjl : j < m
        · obtain ⟨a', x, ha', hcx, hxb, hx⟩ := f64at hra (i := j) (by rw [mkS_len]; exact hjl)
          subst ha'
          have hx2 : 1000 * k + j = x := by rw [← hx.out, mkS_at hjl]
          subst hx2
          have hlj : (j : Int) < (m : Int) := by omega
          have hj0 : (0 : Int) ≤ (j : Int) := by omega
          clear hx hxb
          go_wp2_with fail
          refine (HAB.out _ _).mono ?_
          rintro e w' ⟨rfl, rfl⟩
          go_wp2
          go_roundw
          case rel => exact ⟨j + 1, by go_num, by omega, q1, rfl⟩
          case measure => simp [intOf]; omega
        · obtain rfl : m = j := by omega
          go_wp2
          clear hjl
          go_loopw [7] (fun jv wr => ∃ (j : Nat), jv = .int .i64 j ∧ j ≤ 9 ∧ Hid (∃ q, wr = w.drewN q)) (fun jv _ => 9 - (intOf jv).toNat)
          case atStart => exact ⟨0, rfl, Nat.zero_le _, q1, rfl⟩
          case round =>
            obtain ⟨j, rfl, hj, hQ3⟩ := hrel
            obtain ⟨q2, hq2⟩ := hQ3.out
            subst hq2
            by_cases hjl : j < 9
            · obtain ⟨b', y, hb', hcy, hyb, hy⟩ := f64at hrb (i := m + j) (by rw [lgS_len]; omega)
              subst hb'
              have hy2 : 1000 * k + j + 500000000 = y := by rw [← hy.out, lgS_at hjl]
              subst hy2
              have hj0 : (0 : Int) ≤ (j : Int) := by omega
              have hj9 : (j : Int) < 9 := by omega
              have hs1 : (0 : Int) ≤ (m : Int) + (j : Int) := by omega
              have hs2 : (m : Int) + (j : Int) < (m : Int) + 9 := by omega
              have hs3 : ((m : Int) + (j : Int)).toNat = m + j := by omega
              clear hy hyb
              go_wp2
              go_quiet ((go_at_call 18; first | exact quiet_sum ((HAB.out _ _).mono (fun _ _ h => ⟨h.1, 0, h.2.symm.trans (by simp)⟩)) | exact Calls.quiet_of_same ((HAB.out _ _).mono (fun _ _ h => ⟨h.1, h.2.symm⟩))))
              go_wp2
              go_roundw
              case rel => exact ⟨j + 1, by go_num, by omega, _, rfl⟩
              case measure => simp [intOf]; omega
            · obtain rfl : j = 9 := by omega
              go_wp2
              go_roundw
              case rel => exact ⟨k + 1, by go_num, by omega, q2, rfl⟩
              case measure => simp [intOf]; omega
    · obtain rfl : k = lens.length := by omega
      go_wp2
      go_ret
      exact ⟨rfl, hQ.out⟩
end Go.Proofs.YtcfejobdgiiihaaGreatDoor

namespace Go.Proofs.YtcfejobdgiiihaaGreatDoor
open Go.RowKit
attribute [local go_sem ↓] Go.wp_at_zero Go.wp_at_succ

/-! ### marks: standInts -/
def mkI (i n : Nat) : List Int := (List.range n).map fun j => 1000 * (i : Int) + (j : Nat)
def lgI (i n : Nat) : List Int := mkI i n ++ (List.range 9).map fun j => -(1000 * (i : Int) + (j : Nat) + 1)
def mkIL (lens : List Nat) : List (List Int) := (List.range lens.length).map fun i => mkI i (lens.getD i 0)
def lgIL (lens : List Nat) : List (List Int) := (List.range lens.length).map fun i => lgI i (lens.getD i 0)
theorem mkI_len (i n : Nat) : (mkI i n).length = n := by simp [mkI]
theorem lgI_len (i n : Nat) : (lgI i n).length = n + 9 := by simp [lgI, mkI_len]
theorem mkIL_len (l : List Nat) : (mkIL l).length = l.length := by simp [mkIL]
theorem lgIL_len (l : List Nat) : (lgIL l).length = l.length := by simp [lgIL]
theorem mkIL_at {l : List Nat} {i : Nat} (h : i < l.length) : (mkIL l).getD i [] = mkI i (l.getD i 0) := by simp [mkIL, h]
theorem lgIL_at {l : List Nat} {i : Nat} (h : i < l.length) : (lgIL l).getD i [] = lgI i (l.getD i 0) := by simp [lgIL, h]
theorem mkI_at {i n j : Nat} (h : j < n) : (mkI i n).getD j 0 = 1000 * (i : Int) + (j : Nat) := by simp [mkI, h]
theorem lgI_at {i n j : Nat} (h : j < 9) : (lgI i n).getD (n + j) 0 = -(1000 * (i : Int) + (j : Nat) + 1) := by
  rw [List.getD_eq_getElem?_getD, lgI, List.getElem?_append_right (by rw [mkI_len]; omega), mkI_len, Nat.add_sub_cancel_left]
  simp [h]
set_option maxHeartbeats 4000000 in
set_option maxRecDepth 100000 in
theorem standints_calls (A B : Option Addr) (lens : List Nat) (n cA cB b1 b2 : Nat) (w : World) (hn : lens.length = n) (hA : (bsl 3 i64).Row 40 w b1 A (mkIL lens)) (hB : (bsl 3 i64).Row 40 w b2 B (lgIL lens)) (hl : n ≤ 1000000) (hll : ∀ i, lens.getD i 0 ≤ 1000000) :
    Calls Tryz.prog 74 #[.slice A n cA, .slice B n cB] w fun e w' => e = .returned (.bool true) ∧ ∃ q, w' = w.drewN q := by
  subst hn
  have HLL := Lib.hid hll
  go_enter Tryz.func74, Tryz.ntmps74
  go_wp2
  go_loopw [5, 6, 7] (fun i _ _ wr => ∃ (k : Nat), i = .int .i64 k ∧ k ≤ lens.length ∧ Hid (∃ q, wr = w.drewN q)) (fun i _ _ _ => lens.length - (intOf i).toNat)
  case atStart => exact ⟨0, rfl, Nat.zero_le _, 0, rfl⟩
  case round =>
    obtain ⟨k, rfl, hk, hQ⟩ := hrel
    by_cases hlt : k < lens.length
    · obtain ⟨a, A2, xs, ca, rfl, hca, hxe, hlc, hlC, hra⟩ := bsl_at hA (i := k) (by rw [mkIL_len]; exact hlt)
      obtain ⟨b, B2, ys, cb, rfl, hcb, hye, hld, hlD, hrb⟩ := bsl_at hB (i := k) (by rw [lgIL_len]; exact hlt)
      have hm : lens.getD k 0 ≤ 1000000 := HLL.out k
      obtain ⟨m, hme⟩ : ∃ m, lens.getD k 0 = m := ⟨_, rfl⟩
      rw [hme] at hm
      have hxs : xs = mkI k m := by rw [← hxe.out, mkIL_at hlt, hme]
      have hys : ys = lgI k m := by rw [← hye.out, lgIL_at hlt, hme]
      subst hxs hys
      rw [mkI_len] at hca
      rw [lgI_len] at hcb
      have hlx : (k : Int) < (lens.length : Int) := by omega
      have hl0 : (0 : Int) ≤ (k : Int) := by omega
      obtain ⟨q0, hq0⟩ := hQ.out
      subst hq0
      clear hxe hye hme hlc hlC hld hlD
      go_wp2
      go_loopw [6] (fun jv wr => ∃ (j : Nat), jv = .int .i64 j ∧ j ≤ m ∧ Hid (∃ q, wr = w.drewN q)) (fun jv _ => m - (intOf jv).toNat)
      case atStart => exact ⟨0, rfl, Nat.zero_le _, q0, rfl⟩
      case round =>
        obtain ⟨j, rfl, hj, hQ2⟩ := hrel
        obtain ⟨q1, hq1⟩ := hQ2.out
        subst hq1
        by_cases hjl : j < m
        · obtain ⟨a', x, ha', hcx, hxb, hx⟩ := i64at hra (i := j) (by rw [mkI_len]; exact hjl)
          subst ha'
          have hx2 : 1000 * (k : Int) + (j : Nat) = x := by rw [← hx.out, mkI_at hjl]
          subst hx2
          have hlj : (j : Int) < (m : Int) := by omega
          have hj0 : (0 : Int) ≤ (j : Int) := by omega
          clear hx hxb
          go_wp2
          go_roundw
          case rel => exact ⟨j + 1, by go_num, by omega, q1, rfl⟩
          case measure => simp [intOf]; omega
        · obtain rfl : m = j := by omega
          go_wp2
          clear hjl
          go_loopw [7] (fun jv wr => ∃ (j : Nat), jv = .int .i64 j ∧ j ≤ 9 ∧ Hid (∃ q, wr = w.drewN q)) (fun jv _ => 9 - (intOf jv).toNat)
          case atStart => exact ⟨0, rfl, Nat.zero_le _, q1, rfl⟩
          case round =>
            obtain ⟨j, rfl, hj, hQ3⟩ := hrel
            obtain ⟨q2, hq2⟩ := hQ3.out
            subst hq2
            by_cases hjl : j < 9
            · obtain ⟨b', y, hb', hcy, hyb, hy⟩ := i64at hrb (i := m + j) (by rw [lgI_len]; omega)
              subst hb'
              have hy2 : -(1000 * (k : Int) + (j : Nat) + 1) = y := by rw [← hy.out, lgI_at hjl]
              subst hy2
              have hj0 : (0 : Int) ≤ (j : Int) := by omega
              have hj9 : (j : Int) < 9 := by omega
              have hs1 : (0 : Int) ≤ (m : Int) + (j : Int) := by omega
              have hs2 : (m : Int) + (j : Int) < (m : Int) + 9 := by omega
              have hs3 : ((m : Int) + (j : Int)).toNat = m + j := by omega
              clear hy hyb
              go_wp2
              go_quiet (fail)
              go_wp2
              go_roundw
              case rel => exact ⟨j + 1, by go_num, by omega, _, rfl⟩
              case measure => simp [intOf]; omega
            · obtain rfl : j = 9 := by omega
              go_wp2
              go_roundw
              case rel => exact ⟨k + 1, by go_num, by omega, q2, rfl⟩
              case measure => simp [intOf]; omega
    · obtain rfl : k = lens.length := by omega
      go_wp2
      go_ret
      exact ⟨rfl, hQ.out⟩
end Go.Proofs.YtcfejobdgiiihaaGreatDoor

namespace Go.Proofs.YtcfejobdgiiihaaGreatDoor
open Go.RowKit
attribute [local go_sem ↓] Go.wp_at_zero Go.wp_at_succ

/-! ### lists of one's own, by their blocks -/
/-- what may change: the blocks of S, and new ones -/
structure OnlyIn (S : List Nat) (w w' : World) : Prop where
  os : w'.os = w.os
  tape : w'.tape = w.tape
  output : w'.output = w.output
  size : w.heap.size ≤ w'.heap.size
  block : ∀ b, b < w.heap.size → b ∉ S → w'.heap[b]? = w.heap[b]?
theorem OnlyIn.refl (S : List Nat) (w : World) : OnlyIn S w w := ⟨rfl, rfl, rfl, Nat.le_refl _, fun _ _ _ => rfl⟩
theorem OnlyIn.below {S : List Nat} {w w1 w2 : World} (h : OnlyIn S w w1) (hb : Below w1.heap.size w1 w2) : OnlyIn S w w2 :=
  ⟨hb.os.trans h.os, hb.tape.trans h.tape, hb.output.trans h.output, Nat.le_trans h.size hb.size, fun b hl hn => (hb.block b (Nat.lt_of_lt_of_le hl h.size)).trans (h.block b hl hn)⟩
theorem OnlyIn.drewN {S : List Nat} {w w1 : World} (h : OnlyIn S w w1) (q : Nat) : OnlyIn S w (w1.drewN q) := h.below (below_drewN (Below.refl _ _) q)
theorem OnlyIn.drew {S : List Nat} {w w1 : World} (h : OnlyIn S w w1) : OnlyIn S w w1.drew := h.below (Below.refl _ _).drew
theorem OnlyIn.set {S : List Nat} {w w1 : World} (h : OnlyIn S w w1) {p : Addr} (hp : p.block ∈ S ∨ w.heap.size ≤ p.block) (v : Value) : OnlyIn S w (w1.setCell p v) :=
  ⟨h.os, h.tape, h.output, by simpa [World.setCell] using h.size, fun b hl hn => (Below.heap_setCell w1 p v b (fun e => by subst e; rcases hp with hp | hp; exact hn hp; omega)).trans (h.block b hl hn)⟩
theorem OnlyIn.grown {S : List Nat} {w w1 w2 : World} {g : Nat} (h : OnlyIn S w w1) (hg : w1.grownBy w2 (some g)) (hp : g ∈ S ∨ w.heap.size ≤ g) : OnlyIn S w w2 :=
  ⟨hg.os.trans h.os, hg.tape.trans h.tape, hg.output.trans h.output, Nat.le_trans h.size hg.size, fun b hl hn => (hg.block b (Nat.lt_of_lt_of_le hl h.size) (fun e => by injection e with e; subst e; rcases hp with hp | hp; exact hn hp; omega)).trans (h.block b hl hn)⟩
section
variable {P : Program} {ops : Array Oper} {rest : List Oper} {o : Oper} {a : Act} {Q : Exit → Act → World → Prop}
/-- 'b = append(b, x)': x was just laid in a block of its own; b lies in a block known whole, from its first cell on -/
theorem append_blk {W : World} (H : Nat) (hH : W.heap.size = H) (hgd : o.guard = none) (s x : Operand) (t e : TypeId) (z : Value) (bytes : Nat)
    (ho : o.op = .call { callee := .builtin .append, args := #[s, x], argTypes := #[t, t] })
    (ht : P.underlying t = some (.slice e)) (hinfo : (P.info? e).map (fun i => (i.zero, i.size, i.bytes)) = some (some z, 1, bytes)) (hz : z.cells.size = 1)
    (g n cap : Nat) (cs : List Value) (xv : Value) (h1x : xv.oneCell' = true) (hs : a.eval s = .slice (some ⟨g, 0, none⟩) n cap) (hx : a.eval x = .slice (some ⟨H, 0, none⟩) 1 1)
    (hb : Blk W g e cs) (hcap : cs.length = cap) (hn : n ≤ cap) (hl : (n + 1) * bytes ≤ 140737488355328) (hn2 : n + 1 ≤ 140737488355328)
    (h : ∀ g' cs' w', ((g' = g ∧ cs'.length = cs.length) ∨ W.heap.size ≤ g') → Blk w' g' e cs' → cs'.take (n + 1) = cs.take n ++ [xv] → n + 1 ≤ cs'.length → W.grownBy w' (some g') → wpList P ops Q rest (a.put o.dst (.slice (some ⟨g', 0, none⟩) (n + 1) cs'.length)) w') :
    wpList P ops Q (o :: rest) a (W.alloc (.cells #[xv] e)) := by
  subst hH hcap
  obtain ⟨i0, hi, hzz⟩ := Option.map_eq_some_iff.1 hinfo
  simp only [Prod.mk.injEq] at hzz
  obtain ⟨hz0, hz1, hz2⟩ := hzz
  have hb2 : Blk (W.alloc (.cells #[xv] e)) g e cs := hb.alloc _
  have hgl := hb.lt
  refine wpList_append_arg (W.alloc (.cells #[xv] e)) hgd s x t ho e i0 z 1 bytes ht hi hz0 hz1 hz2 hz (by decide) g 0 n cs.length (cs.take n) hs (by simp; omega) ?_ ⟨W.heap.size, 0, none⟩ 1 1 [xv] hx (by rfl)
    (by simpa using World.news_of_block (cs := #[xv]) (t := e) (fr := (0, 0)) (heap_alloc_new W (.cells #[xv] e))) (by simpa using h1x) ?_ (by simp only [maxLen]; omega) hl ?_ ?_
  · intro j u hj
    have hjn : j < n := by have := (List.getElem?_eq_some_iff.1 hj).1; rw [List.length_take] at this; omega
    rw [Nat.zero_add, hb2.cell]
    rw [List.getElem?_take] at hj
    simpa [hjn] using hj
  · intro hr j hj
    obtain rfl : j = 0 := by simp at hj; exact hj
    refine ⟨?_, hb2.frozen _⟩
    rw [hb2.cell, List.getElem?_eq_getElem (by omega)]; rfl
  · intro hr
    have e1 : (W.alloc (.cells #[xv] e)).setCells g (0 + n * 1) [xv] = (W.alloc (.cells #[xv] e)).setCell ⟨g, n, none⟩ xv := by simp [World.setCells]
    rw [e1]
    have hset := hb2.set n xv
    have := h g (cs.set n xv) _ (.inl ⟨rfl, by rw [List.length_set]⟩) hset ?_ (by rw [List.length_set]; exact hr) ?_
    · rw [List.length_set] at this; exact this
    · rw [List.take_succ_eq_append_getElem (by rw [List.length_set]; omega), List.take_set_of_le (Nat.le_refl _), List.getElem_set_self]
    · refine ⟨rfl, rfl, rfl, by simp [World.setCell], fun b hl hne => ?_⟩
      rw [Below.heap_setCell _ _ _ _ (by intro e; exact hne (by rw [e]))]
      exact heap_alloc_old W _ hl
  · intro hg v' w' hown hgr
    rcases hown.2 with ⟨rfl, h0⟩ | ⟨g', cap', cur, rfl, hgb, hh, c1, c2, c3, c4⟩
    · omega
    · have hblk : Blk w' g' e cur.toList := by unfold Blk; simpa using hh
      have hcl : cur.toList.length = cap' := by simpa using c3
      have := h g' cur.toList w' (.inr (by simp at hgb; omega)) hblk (by rw [← c4, Nat.mul_one]) (by rw [hcl]; exact c1) ?_
      · rw [hcl] at this; exact this
      · refine ⟨hgr.os.trans rfl, hgr.tape.trans rfl, hgr.output.trans rfl, by have := hgr.size; simp at this; omega, fun b hl _ => ?_⟩
        rw [hgr.block b (by simp; omega) (by simp)]
        exact heap_alloc_old W _ hl
end
/-! ### headers of lists, and what lies in their blocks -/
structure LS where
  g : Nat
  n : Nat
  cap : Nat
def LS.val (e : LS) : Value := .slice (some ⟨e.g, 0, none⟩) e.n e.cap
def hdRd : Rd LS := Rd.scalar LS.val (fun _ => True) (fun _ => rfl)
theorem hdAt {t : Nat} {w : World} {base : Nat} {A : Option Addr} {es : List LS} (h : hdRd.Row t w base A es) {i : Nat} {e : LS} (he : es[i]? = some e) :
    ∃ a : Addr, A = some a ∧ w.cell? (a.add i) = some (.slice (some ⟨e.g, 0, none⟩) e.n e.cap) := by
  have hi := (List.getElem?_eq_some_iff.1 he).1
  obtain ⟨a, x, ha, hc, _, hx⟩ := Rd.Row.get h hi
  obtain rfl : e = x := Option.some.inj (he.symm.trans hx.out)
  exact ⟨a, ha, hc⟩
def LM (t : Nat) (w : World) (es : List LS) (F : Nat → LS → List Value → Prop) : Prop := ∀ i e, es[i]? = some e → ∃ cs, Blk w e.g t cs ∧ cs.length = e.cap ∧ F i e cs
/-- no two of them share a block -/
def Dist (es : List LS) : Prop := ∀ (i j : Nat) e e', es[i]? = some e → es[j]? = some e' → e.g = e'.g → i = j
theorem LM.mono {t : Nat} {w : World} {es : List LS} {F F' : Nat → LS → List Value → Prop} (h : LM t w es F) (hf : ∀ (i : Nat) (e : LS) cs, es[i]? = some e → F i e cs → F' i e cs) : LM t w es F' := fun i e he => by
  obtain ⟨cs, h1, h2, h3⟩ := h i e he
  exact ⟨cs, h1, h2, hf _ _ _ he h3⟩
theorem LM.keep {t : Nat} {w w' : World} {es : List LS} {F : Nat → LS → List Value → Prop} (h : LM t w es F) (hk : ∀ (i : Nat) (e : LS), es[i]? = some e → w'.heap[e.g]? = w.heap[e.g]?) : LM t w' es F := fun i e he => by
  obtain ⟨cs, h1, h2, h3⟩ := h i e he
  exact ⟨cs, (hk i e he).trans h1, h2, h3⟩
theorem LM.drewN {t : Nat} {w : World} {es : List LS} {F : Nat → LS → List Value → Prop} (h : LM t w es F) (q : Nat) : LM t (w.drewN q) es F := h
theorem LM.set {t : Nat} {w : World} {es : List LS} {F F' : Nat → LS → List Value → Prop} (h : LM t w es F) (hd : Dist es) {k : Nat} {e : LS} (hk : es[k]? = some e) (j : Nat) (v : Value)
    (h1 : ∀ i e' cs, i ≠ k → F i e' cs → F' i e' cs) (h2 : ∀ cs, cs.length = e.cap → F k e cs → F' k e (cs.set j v)) : LM t (w.setCell ⟨e.g, j, none⟩ v) es F' := fun i e' he => by
  obtain ⟨cs, b1, b2, b3⟩ := h i e' he
  by_cases hik : i = k
  · subst hik
    obtain rfl : e' = e := Option.some.inj (he.symm.trans hk)
    exact ⟨_, b1.set j v, by rw [List.length_set]; exact b2, h2 cs b2 b3⟩
  · have hne : e'.g ≠ e.g := fun e0 => hik (hd i k e' e he hk e0)
    exact ⟨cs, b1.far (p := ⟨e.g, j, none⟩) hne v, b2, h1 _ _ _ hik b3⟩
/-- the header's row stays where another type's block is written -/
theorem hd_keep {t : Nat} {w w' : World} {base : Nat} {A : Option Addr} {es : List LS} (h : hdRd.Row t w base A es) (hk : Keeps base [t] w w') : hdRd.Row t w' base A es :=
  Rd.Row.keep h hk (by simp) (by intro q hq; cases hq)
theorem take_set_mark {cs : List Value} {j : Nat} {xs : List Value} {v : Value} (h : cs.take j = xs) (hj : j < cs.length) : (cs.set j v).take (j + 1) = xs ++ [v] := by
  rw [List.take_succ_eq_append_getElem (by rw [List.length_set]; exact hj), List.take_set_of_le (Nat.le_refl _), List.getElem_set_self, h]
theorem mkS_succ (k j : Nat) : f64s (mkS k (j + 1)) = f64s (mkS k j) ++ [.float .f64 (1000 * k + j)] := by
  simp [mkS, f64s, List.range_succ]
theorem mkI_succ (k j : Nat) : iInts (mkI k (j + 1)) = iInts (mkI k j) ++ [.int .i64 (1000 * (k : Int) + (j : Nat))] := by
  simp [mkI, iInts, List.range_succ]
theorem float_calls (u : Nat) (w : World) : Calls Tryz.prog 72 #[.int .u64 (u : Nat)] w fun e w' => e = .returned (.float .f64 u) ∧ w = w' := by
  go_enter Tryz.func72, Tryz.ntmps72
  go_wp2
  go_ret
  exact ⟨rfl, rfl⟩
end Go.Proofs.YtcfejobdgiiihaaGreatDoor
