/- Walks and plain laws of this seat's functions, part 19: D1. -/
import Derived.Test.YtcfejobdgiiihaaGreatDoorJ18
set_option linter.unusedVariables false
set_option linter.unusedSimpArgs false
namespace Go.Proofs.YtcfejobdgiiihaaGreatDoor
open Go.RowKit

theorem own_f64 {w : World} {b base t : Nat} {v : Value} {xs : List Nat} (h : w.ownsRow b t 1 v xs.length (f64s xs)) (hb : ∀ x ∈ xs, x < B64) : f64.Own t w b base v xs := by
  refine ⟨xs.map fun x => [.float .f64 x], by simp, ?_, ?_⟩
  · have : ∀ ys : List Nat, (ys.map fun x => [Value.float .f64 x]).flatten = f64s ys := by
      intro ys
      induction ys with
      | nil => rfl
      | cons x ys ih => rw [List.map_cons, List.flatten_cons, ih]; rfl
    rw [this]; exact h
  · intro i x c h1 h2
    simp only [List.getElem?_map, h1, Option.map_some, Option.some.injEq] at h2
    subst h2
    exact ⟨rfl, hb x (List.mem_of_getElem? h1)⟩
/-- own lists, read as lists -/
theorem ol_row {t : Nat} {w : World} {b0 base : Nat} {v : Value} {es : List OL} {ls : List (List Nat)} (h : olRd.Own t w b0 base v es) (hl : es.map (·.l) = ls) :
    ∃ A c, v = .slice A ls.length c ∧ ls.length ≤ c ∧ (bsl 47 f64).Row t w base A ls := by
  subst hl
  obtain ⟨A, c, rfl, hc, hr⟩ := h.row
  refine ⟨A, c, by rw [List.length_map], by rw [List.length_map]; exact hc, ?_⟩
  intro i l hi
  simp only [List.getElem?_map] at hi
  obtain ⟨e, he, rfl⟩ : ∃ e, es[i]? = some e ∧ e.l = l := by
    cases h0 : es[i]? with
    | none => rw [h0] at hi; simp at hi
    | some e => rw [h0] at hi; simp at hi; exact ⟨e, rfl, hi⟩
  obtain ⟨a, cs, h1, h2, h3, ⟨h4, h5⟩, h6⟩ := hr i e he
  refine ⟨a, cs, h1, h2, h3, ?_, h6⟩
  obtain ⟨A', c', hv, hc', hr'⟩ := (own_f64 (base := base) h5.own h5.bd).row
  exact ⟨⟨A', c', by rw [h4, hv]; rfl, hc', hr'⟩, by have := h5.len; omega⟩
set_option maxHeartbeats 4000000 in
set_option maxRecDepth 100000 in
theorem claims_law_big (p : Pr) (cs : List Value) (m : Int) (w : World) (base : Nat) (h : prRd.R w base p cs) (hL : 300 < p.L.length) :
    Calls Tryz.prog 3 #[.agg cs.toArray, .int .i64 m] w fun e w' => e = .returned (.bool true) ∧ Below w.heap.size w w' := by
  obtain ⟨AC, AG, AL, cC, cG, cL, rfl, hr, hl⟩ := h
  obtain ⟨C, G, T, L, K, D, S⟩ := p
  simp only at hL ⊢
  have hl2 : L.length ≤ 17592186044416 := Nat.le_trans hl.l.2 (by decide)
  have hW := Lib.hid (below_new (Below.refl w.heap.size w) (.cells #[.slice AC C.length cC, .slice AG G.length cG, .int .i64 T, .slice AL L.length cL, .int .i64 K, .int .i64 D, .int .i64 S] 25))
  have HA := Lib.hid (fun W => awake_calls W)
  have d1 : (300 : Int) < (L.length : Int) := by omega
  clear hr hl hL
  go_enter Tryz.func3, Tryz.ntmps3
  go_wp2_with fail
  refine (HA.out _).mono ?_
  rintro e w2 ⟨rfl, h2⟩
  have H2 := Lib.hid (below_next hW.out h2)
  clear h2
  go_wp2
  go_ret
  exact ⟨rfl, H2.out⟩
set_option maxHeartbeats 4000000 in
set_option maxRecDepth 100000 in
theorem claims_law (p : Pr) (cs : List Value) (m : Int) (w : World) (base : Nat) (h : prRd.R w base p cs) (hL : p.L.length ≤ 300) (hbase : base ≤ w.heap.size) :
    Calls Tryz.prog 3 #[.agg cs.toArray, .int .i64 m] w fun e w' => e = .returned (.bool true) ∧ Below w.heap.size w w' := by
  have HH := Lib.hid h
  have HCL := Lib.hid (fun W (hW : Below w.heap.size w W) => mclaims_calls p cs m W base (prRd.below h hW) (by omega))
  have HOP := Lib.hid (fun W (hW : Below w.heap.size w W) => ofprop_calls p cs W base base (prRd.below h hW) (Nat.le_trans hbase hW.size))
  have HRC := Lib.hid (fun cs' W (hr : rpRd.R W base p cs') (hW : Below w.heap.size w W) => rclaims_calls p cs' m W base base hr (by omega) (Nat.le_trans hbase hW.size))
  have HN : Hid (∀ ls, ls = (if errS p m = 0 then claimsL p m else []) → ls.length ≤ 1000) := by
    rintro ls rfl
    split
    · rename_i h0
      have hm : m ≤ 256 := by
        unfold errS at h0
        split at h0
        · cases h0
        · rename_i hb
          simp only [tbadB, Bool.or_eq_true, decide_eq_true_eq, not_or] at hb
          omega
      unfold claimsL
      rw [List.length_append]
      have h2 : (if 0 ≤ p.T then rowsS m.toNat p.T.toNat m.toNat else []).length ≤ m.toNat := by
        split
        · exact rowsS_len _ _ _
        · exact Nat.zero_le _
      omega
    · simp
  obtain ⟨ls, hls⟩ : ∃ ls, ls = (if errS p m = 0 then claimsL p m else []) := ⟨_, rfl⟩
  have hlen : ls.length ≤ 1000 := HN.out ls hls
  have HLS := Lib.hid hls
  obtain ⟨er, her⟩ : ∃ er, errS p m = er := ⟨_, rfl⟩
  have HER := Lib.hid her
  clear HN hls her
  obtain ⟨AC, AG, AL, cC, cG, cL, rfl, hr, hl⟩ := h
  obtain ⟨C, G, T, L, K, D, S⟩ := p
  simp only at hL ⊢
  have hl2 : L.length ≤ 17592186044416 := Nat.le_trans hl.l.2 (by decide)
  have hW := Lib.hid (below_new (Below.refl w.heap.size w) (.cells #[.slice AC C.length cC, .slice AG G.length cG, .int .i64 T, .slice AL L.length cL, .int .i64 K, .int .i64 D, .int .i64 S] 25))
  have hB := Lib.hid (Blk.new w #[.slice AC C.length cC, .slice AG G.length cG, .int .i64 T, .slice AL L.length cL, .int .i64 K, .int .i64 D, .int .i64 S] 25)
  have HA := Lib.hid (fun W => awake_calls W)
  have d1 : ¬ (300 : Int) < (L.length : Int) := by omega
  clear hr hl hL
  go_enter Tryz.func3, Tryz.ntmps3
  go_wp2_with fail
  refine (HCL.out _ hW.out).mono ?_
  rintro e w2 ⟨v, es, rfl, hO, hNd, hE, hW2⟩
  obtain ⟨A, c, rfl, hc, hrow⟩ := ol_row hO (hE.trans HLS.out.symm)
  rw [HER.out]
  have HR := Lib.hid hrow
  have H2 := Lib.hid (below_next hW.out hW2)
  have HB2 := Lib.hid (Blk.below' hB.out hW2)
  obtain ⟨c0, c1, c2, c3, c4, c5, c6⟩ := seven HB2.out
  clear hO hNd hE hW2 HCL hrow
  go_wp2_with fail
  refine (HOP.out _ H2.out).mono ?_
  rintro e w3 ⟨cs3, rfl, hr3, hW3⟩
  have H3 := Lib.hid (below_next H2.out hW3)
  have HR3 := Lib.hid hr3
  have HRW := Lib.hid (Rd.Row.below HR.out hW3)
  clear hr3 hW3 HOP c0 c1 c2 c3 c4 c5 c6 HB2 HR
  go_wp2_with fail
  refine (HRC.out cs3 _ HR3.out H3.out).mono ?_
  rintro e w4 ⟨B4, c4, ls4, rfl, hl4, hc4, hr4, hW4⟩
  obtain rfl : ls4 = ls := hl4.out.trans HLS.out.symm
  rw [HER.out]
  have H4 := Lib.hid (below_next H3.out hW4)
  have HR4 := Lib.hid hr4
  have HRW4 := Lib.hid (Rd.Row.below HRW.out hW4)
  have HLI := Lib.hid (lists_calls A ls4 ls4.length c 22 47 _ w4.heap.size w4 rfl HRW4.out (by omega) (Nat.le_refl _))
  clear hl4 hr4 hW4 HRC HRW HR3
  go_wp2_with fail
  refine HLI.out.mono ?_
  rintro e w5 ⟨B5, c5, rfl, hc5, hr5, hW5⟩
  have H5 := Lib.hid (below_next H4.out hW5)
  have HSL := Lib.hid (samelists_calls B5 B4 ls4 ls4 ls4.length ls4.length c5 c4 33 33 50 50 _ _ w5 rfl rfl hr5 (Rd.Row.below HR4.out hW5) (by omega) (by omega))
  rw [show decide (ls4 = ls4) = true from decide_eq_true rfl] at HSL
  clear hr5 hW5 HLI
  go_wp2_with fail
  refine HSL.out.mono ?_
  rintro e w6 ⟨rfl, q, rfl⟩
  go_wp2_with fail
  refine (HA.out _).mono ?_
  rintro e w7 ⟨rfl, h7⟩
  have H7 := Lib.hid (below_next (below_drewN H5.out q) h7)
  clear h7
  go_wp2
  go_ret
  exact ⟨rfl, H7.out⟩
end Go.Proofs.YtcfejobdgiiihaaGreatDoor
