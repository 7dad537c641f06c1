/- Walks and plain laws of this seat's functions, part 16: Z11. -/
import Derived.Test.YtcfejobdgiiihaaGreatDoorJ15
set_option linter.unusedVariables false
set_option linter.unusedSimpArgs false
namespace Go.Proofs.YtcfejobdgiiihaaGreatDoor
open Go.RowKit

set_option maxHeartbeats 8000000 in
set_option maxRecDepth 100000 in
theorem mclaims_e (p : Pr) (cs : List Value) (m : Nat) (w : World) (base : Nat) (h : prRd.R w base p cs) (hb : tbadB p m = false) (h5 : p.L.length = 0) (hL3 : p.L.length ≤ 1000000) :
    Calls Tryz.prog 9 #[.agg cs.toArray, .int .i64 m] w (ClaimsPost p m w) := by
  obtain ⟨AC, AG, AL, cC, cG, cL, rfl, hr, hl⟩ := h
  obtain ⟨C, G, T, L, K, D, S⟩ := p
  have HTB := Lib.hid hb
  unfold tbadB at hb
  simp only [Bool.or_eq_false_iff, decide_eq_false_iff_not] at hb h5 hL3 ⊢
  obtain ⟨⟨⟨⟨h1, h2⟩, h3⟩, h4⟩, h6⟩ := hb
  have d1 : decide ((m : Int) < 1) = false := decide_eq_false h1
  have d2 : decide ((256 : Int) < m) = false := decide_eq_false h2
  have d3 : decide (T < -1) = false := decide_eq_false h3
  have d4 : decide ((m : Int) ≤ T) = false := decide_eq_false h4
  rw [decide_eq_true h5, Bool.true_and, Bool.or_eq_false_iff, decide_eq_false_iff_not, decide_eq_false_iff_not] at h6
  have e5 : ((L.length : Int) == 0) = true := by simp; exact List.length_eq_zero_iff.1 h5
  have d7 : decide (T < 0) = false := decide_eq_false h6.1
  have d8 : decide ((m : Int) < 2) = false := decide_eq_false h6.2
  have hL : L.length ≤ 17592186044416 := Nat.le_trans hl.l.2 (by decide)
  have HRL := Lib.hid (fun W (hW : Below w.heap.size w W) => (show (bsl 47 f64).Row 22 W base AL L from hr.L.below hW))
  have HW := Lib.hid (below_new (Below.refl w.heap.size w) (.cells #[.slice AC C.length cC, .slice AG G.length cG, .int .i64 T, .slice AL L.length cL, .int .i64 K, .int .i64 D, .int .i64 S] 25))
  have HB := Lib.hid (Blk.new w #[.slice AC C.length cC, .slice AG G.length cG, .int .i64 T, .slice AL L.length cL, .int .i64 K, .int .i64 D, .int .i64 S] 25)
  clear hr hl h5
  have hm1 : 1 ≤ m := by omega
  have hm2 : m ≤ 256 := by omega
  have ht1 : -1 ≤ T := by omega
  have ht2 : T < (m : Int) := by omega
  clear h1 h2 h3 h4 h6
  go_enter Tryz.func9, Tryz.ntmps9
  go_wp2
  clear d1 d2 d3 d4 e5 d7 d8
  go_loop [7, 50] (fun _ i => ∃ k : Nat, k ≤ L.length ∧ i = .int .i64 k ∧ Hid ((L.take k).all (fun l => decide ((l.length : Int) = m + 1)) = true)) (fun _ i => L.length - (intOf i).toNat)
  case atStart => exact ⟨0, by omega, rfl, rfl⟩
  case round =>
    obtain ⟨k, hk, rfl, hall⟩ := hrel
    by_cases hlt : k < L.length
    · obtain ⟨b, B, l, lc, rfl, hcg, hge, hlc, hlC, hrow⟩ := bsl_at (HRL.out _ HW.out) hlt
      have hi1 : (k : Int) < (L.length : Int) := by omega
      by_cases hll : (l.length : Int) = (m : Int) + 1
      · have d1 : ((l.length : Int) != (m : Int) + 1) = false := by simp; exact hll
        have HLL := Lib.hid hll
        clear hrow hll
        go_wp2
        go_round
        case rel => exact ⟨k + 1, by omega, by go_num, by rw [Hid, allL_take_step hlt hge.out, hall.out, decide_eq_true HLL.out]; rfl⟩
        case measure => simp [intOf]; omega
      · have d1 : ((l.length : Int) != (m : Int) + 1) = true := by simp; exact hll
        have HLL := Lib.hid hll
        clear hrow hll
        go_wp2
        go_ret2
        exact claims_err (c := 63) (err63 HTB.out (allL_false hlt hge.out (decide_eq_false HLL.out))) (by decide) HW.out
    · obtain rfl : k = L.length := by omega
      have hall2 : Hid (L.all (fun l => decide ((l.length : Int) = m + 1)) = true) := by have := hall.out; rw [List.take_length] at this; exact this
      clear hall hlt
      go_wp2
      go_loop [9, 63] (fun _ i => ∃ k : Nat, k ≤ L.length ∧ i = .int .i64 k ∧ Hid ((L.take k).all (fun l => l.all fin) = true)) (fun _ i => L.length - (intOf i).toNat)
      case atStart => exact ⟨0, by omega, rfl, rfl⟩
      case round =>
        obtain ⟨k, hk, rfl, hall⟩ := hrel
        by_cases hlt : k < L.length
        · obtain ⟨b, B, l, lc, rfl, hcg, hge, hlc, hlC, hrow⟩ := bsl_at (HRL.out _ HW.out) hlt
          have hi1 : (k : Int) < (L.length : Int) := by omega
          obtain ⟨f, hf⟩ : ∃ f, l.all fin = f := ⟨_, rfl⟩
          have HN := mnumbers_calls B l.length lc 47 base l _ rfl hrow hlC
          rw [hf] at HN
          have HNH := Lib.hid HN
          have HFH := Lib.hid hf
          clear hrow HN hf
          cases f
          · go_wp2_with fail
            refine HNH.out.mono ?_
            rintro e w' ⟨rfl, rfl⟩
            go_wp2
            go_ret2
            exact claims_err (c := 64) (err64 HTB.out hall2.out (allL_false hlt hge.out HFH.out)) (by decide) HW.out
          · go_wp2_with fail
            refine HNH.out.mono ?_
            rintro e w' ⟨rfl, rfl⟩
            go_wp2
            go_round
            case rel => exact ⟨k + 1, by omega, by go_num, by rw [Hid, allL_take_step hlt hge.out, hall.out, HFH.out]; rfl⟩
            case measure => simp [intOf]; omega
        · obtain rfl : k = L.length := by omega
          have hall3 : Hid (L.all (fun l => l.all fin) = true) := by have := hall.out; rw [List.take_length] at this; exact this
          clear hall hlt
          go_wp2
          go_loopw [10, 11, 12] (fun v jv _ wr => ∃ (j : Nat) (es : List OL), j ≤ m ∧ (j < m → 0 ≤ T ∨ j = 0) ∧ jv = .int .i64 j ∧ Hid (olRd.Own 22 wr w.heap.size w.heap.size v es) ∧ Hid ((es.map (·.g)).Nodup) ∧ Hid (es.map (·.l) = if 0 ≤ T then rowsS m T.toNat j else []) ∧ Hid (Blk wr w.heap.size 25 [.slice AC C.length cC, .slice AG G.length cG, .int .i64 T, .slice AL L.length cL, .int .i64 K, .int .i64 D, .int .i64 S]) ∧ Hid (Below w.heap.size w wr)) (fun _ jv _ _ => m - (intOf jv).toNat)
          case atStart => exact ⟨0, [], by omega, fun _ => .inr rfl, rfl, Rd.Own.nil _ _ _ _ _, by simp [Hid], by rw [Hid]; split <;> rfl, HB.out, HW.out⟩
          case round =>
            obtain ⟨j, es, hj, hj0, rfl, hO, hN, hE, hB, hW⟩ := hrel
            obtain ⟨vA, vc, rfl, _, _⟩ := hO.out.row
            obtain ⟨mm, hmm⟩ : ∃ mm, m + 1 = mm := ⟨_, rfl⟩
            have hm := fun W => makeF (n := mm) W (by omega)
            have n1 : (m : Int) + 1 = (mm : Int) := by omega
            have hm3 : m < mm := by omega
            have HMM := Lib.hid hmm
            clear hmm
            have c2 : wr.cell? ⟨w.heap.size, 2, none⟩ = some (.int .i64 T) := hB.out.cell 2
            have HJ0 := Lib.hid hj0
            clear hj0
            by_cases hgo : j < m ∧ 0 ≤ T
            · obtain ⟨hjm, hT⟩ := hgo
              obtain ⟨tn, hTn⟩ : ∃ tn : Nat, T = tn := ⟨T.toNat, by omega⟩
              by_cases hjt : j = tn
              · have d1 : ((j : Int) == T) = true := by simp; omega
                have HNX : Hid (rowsS m T.toNat (j + 1) = rowsS m T.toNat j) := by rw [Hid, rowsS, if_pos (by omega)]
                clear hjt hTn hm
                go_wp2
                go_roundw
                case rel => exact ⟨j + 1, es, by omega, fun _ => .inl hT, by go_num, hO.out, hN.out, by rw [Hid, hE.out, if_pos hT, if_pos hT, HNX.out], hB.out, hW.out⟩
                case measure => simp [intOf]; omega
              · have d1 : ((j : Int) == T) = false := by simp; omega
                have HJT := Lib.hid hjt
                have HTN := Lib.hid hTn
                subst hTn
                clear hjt
                obtain ⟨W1, hW1⟩ : ∃ W1, W1 = wr.alloc (.cells (madeCells #[.float .f64 0] mm) 47) := ⟨_, rfl⟩
                have hm1' : (Instr.makeSlice 22 (.int .i64 (mm : Int)) (.int .i64 (mm : Int))).run Tryz.prog wr = .ok (.slice (some ⟨wr.heap.size, 0, none⟩) mm mm) W1 := by rw [hW1]; exact hm wr
                have HZ : Hid (Blk W1 wr.heap.size 47 (f64s (List.replicate mm 0))) := by
                  have := Blk.new wr (madeCells #[.float .f64 0] mm) 47
                  rw [madeF, ← hW1] at this
                  exact this
                have HW1 : Hid (Below wr.heap.size wr W1 ∧ W1.heap.size = wr.heap.size + 1) := by rw [hW1]; exact ⟨below_new (Below.refl _ _) _, by simp⟩
                have hsz1 := hB.out.lt
                have htm : tn < mm := by omega
                obtain ⟨z1, z2⟩ := HZ.out.atF (i := tn) (by simpa using htm)
                obtain ⟨z3, z4⟩ := (HZ.out.setF tn 4607182418800017408).atF (i := j) (by simp; omega)
                have c2' : W1.cell? ⟨w.heap.size, 2, none⟩ = some (.int .i64 tn) := (hB.out.below' HW1.out.1).cell 2
                have hi1 : (tn : Int) < (mm : Int) := by omega
                have hi2 : (j : Int) < (mm : Int) := by omega
                generalize (List.replicate mm 0).getD tn 0 = x1 at *
                generalize ((List.replicate mm 0).set tn 4607182418800017408).getD j 0 = x3 at *
                have hW2 : Below wr.heap.size wr ((W1.setCell ⟨wr.heap.size, tn, none⟩ (.float .f64 4607182418800017408)).setCell ⟨wr.heap.size, j, none⟩ (.float .f64 13830554455654793216)) := (HW1.out.1.setCell (p := ⟨wr.heap.size, tn, none⟩) (Nat.le_refl _) _).setCell (p := ⟨wr.heap.size, j, none⟩) (Nat.le_refl _) _
                have HO2 := Lib.hid (hO.out.below hW2)
                obtain ⟨e2, he2⟩ : ∃ e2 : OL, e2 = ⟨wr.heap.size, mm, rowS m tn j⟩ := ⟨_, rfl⟩
                have HP2 : Hid (olRd.R ((W1.setCell ⟨wr.heap.size, tn, none⟩ (.float .f64 4607182418800017408)).setCell ⟨wr.heap.size, j, none⟩ (.float .f64 13830554455654793216)) w.heap.size e2 [.slice (some ⟨wr.heap.size, 0, none⟩) mm mm]) := by
                  have hb := (HZ.out.setF tn 4607182418800017408).setF j 13830554455654793216
                  have e : ((List.replicate mm 0).set tn 4607182418800017408).set j 13830554455654793216 = rowS m tn j := by rw [rowS, HMM.out]
                  rw [e] at hb
                  have := hb.ownL (base := w.heap.size) (by omega) (by rw [rowS_len]; omega) (rowS_bd m tn j)
                  rw [rowS_len, HMM.out] at this
                  rw [he2]
                  exact ⟨by simp [OL.val, rowS_len, HMM.out], this⟩
                have HN2 := Lib.hid (nodup_new hO.out hN.out e2 (by rw [he2]; exact Nat.le_refl _))
                have hlen : (es.length + 1) * 24 ≤ 140737488355328 := by
                  have h1 := own_len hO.out hE.out
                  rw [if_pos hT] at h1
                  have := rowsS_len m (Int.toNat (tn : Int)) j
                  omega
                have HE2 : Hid ((es ++ [e2]).map (·.l) = rowsS m tn (j + 1)) := by
                  have := hE.out
                  rw [if_pos hT, Int.toNat_natCast] at this
                  rw [Hid, List.map_append, this, rowsS, if_neg HJT.out, he2]; rfl
                have HW2 := Lib.hid hW2
                have hsz2 : w.heap.size ≤ W1.heap.size := by have := HW1.out.2; omega
                clear hm hW1 hW2 he2
                go_wp2_with (at_builtin; refine own_append' olRd W1.heap.size w.heap.size w.heap.size (by simp) rfl _ _ 23 22 (.slice none 0 0) 24 (by rfl) UF IF rfl (by decide) (by decide) _ es e2 [.slice (some ⟨wr.heap.size, 0, none⟩) mm mm] (by rfl) (by rfl) HP2.out (by decide) HO2.out (Nat.le_refl _) (by omega) hlen ?_; intro v1 w1 hO1 hg1)
                have HR := Lib.hid (And.intro hO1 (And.intro (Rd.Own.below_of HO2.out (below_next hW.out HW2.out) hg1) (Blk.grown (hB.out.below' HW2.out) hg1 ((hB.out.below' HW2.out).ne_own HO2.out (by decide)))))
                clear hO1 hg1
                go_wp2
                go_roundw
                case rel => exact ⟨j + 1, _, by omega, fun _ => .inl hT, by go_num, HR.out.1, HN2.out, by rw [Hid, if_pos hT]; exact HE2.out, HR.out.2.2, HR.out.2.1⟩
                case measure => simp [intOf]; omega
            · have HE3 : Hid (es.map (·.l) = if 0 ≤ T then rowsS m T.toNat m else []) := by
                rw [Hid, hE.out]
                by_cases hT : 0 ≤ T
                · have : j = m := by omega
                  rw [this]
                · rw [if_neg hT, if_neg hT]
              have c3 : wr.cell? ⟨w.heap.size, 3, none⟩ = some (.slice AL L.length cL) := hB.out.cell 3
              have hsp : decide (j < m) = false ∨ (decide (j < m) = true ∧ decide (0 ≤ T) = false) := by
                by_cases h : j < m
                · exact .inr ⟨decide_eq_true h, decide_eq_false (by omega)⟩
                · exact .inl (decide_eq_false h)
              clear hm hgo
              rcases hsp with d1 | ⟨d1, d2⟩
              · go_wp2
                obtain ⟨wo, rfl⟩ : ∃ wo : World, wo = wr := ⟨_, rfl⟩
                clear c2 c3 d1
                go_loopw [10, 14, 102] (fun v _ iv wr => ∃ (k : Nat) (es : List OL), k ≤ L.length ∧ iv = .int .i64 k ∧ Hid (olRd.Own 22 wr w.heap.size w.heap.size v es) ∧ Hid ((es.map (·.g)).Nodup) ∧ Hid (es.map (·.l) = (if 0 ≤ T then rowsS m T.toNat m else []) ++ L.take k) ∧ Hid (Below w.heap.size w wr)) (fun _ _ iv _ => L.length - (intOf iv).toNat)
                case atStart => exact ⟨0, es, by omega, rfl, hO.out, hN.out, by rw [Hid, List.take_zero, List.append_nil]; exact HE3.out, hW.out⟩
                case round =>
                  obtain ⟨k, es', hk, rfl, hO, hN, hE, hW⟩ := hrel
                  obtain ⟨vA', vc', rfl, _, _⟩ := hO.out.row
                  by_cases hlt : k < L.length
                  · obtain ⟨b, B, l, lc, rfl, hcg, hge, hlc, hlC, hrow⟩ := bsl_at (HRL.out wr hW.out) hlt
                    have hll : (l.length : Int) = m + 1 := by
                      have := allL_getD hall2.out hlt
                      simp only [hge.out] at this
                      exact of_decide_eq_true this
                    have hl0 : 0 < l.length := by omega
                    have hl257 : l.length ≤ 257 := by omega
                    obtain ⟨ba, _, hBa, _⟩ := f64at hrow hl0
                    subst hBa
                    have hcells := f64_cells hrow
                    have hlb := f64bd hrow
                    have hi1 : (k : Int) < (L.length : Int) := by omega
                    obtain ⟨ii, hii, hi0, hi2, hi3⟩ := info_parts' IF1
                    have HLB := Lib.hid hlb
                    have HGE := hge
                    have hlen : (es'.length + 1) * 24 ≤ 140737488355328 := by
                      have h1 := own_len hO.out hE.out
                      rw [List.length_append, List.length_take] at h1
                      have h2 : (if 0 ≤ T then rowsS m T.toNat m else []).length ≤ m := by
                        split
                        · exact rowsS_len _ _ _
                        · exact Nat.zero_le _
                      omega
                    have hwsz := hW.out.size
                    clear hll hrow hlb hge
                    go_wp2_with (first | (at_builtin; refine wpList_append_own _ rfl (.const (.slice none 0 0)) (.tmp 107) 22 (by rfl) wr.heap.size 47 ii (.float .f64 0) 1 8 UF1 hii hi0 hi2 hi3 rfl (by decide) (.slice none 0 0) 0 [] (by rfl) (World.ownsRow_nil _ _ _ _) ba l.length lc (f64s l) (by rfl) (by simp [f64s]) hcells (by intro u hu; simp [f64s] at hu; obtain ⟨x, _, rfl⟩ := hu; rfl) (by simp only [maxLen]; omega) (by omega) (Nat.le_refl _) ?_; intro v1 w1 hown1 hg1 _; obtain ⟨e2, rfl, he2, he3, he4, he5⟩ := new_list (B := w.heap.size) (n := 0) hown1 hg1 hl0 hl257 HLB.out hwsz; have HN2 := Lib.hid (nodup_new hO.out hN.out e2 he3); have HO2 := Lib.hid (hO.out.below he5); have HP2 := Lib.hid he4; have HE2 := Lib.hid he2; have HW2 := Lib.hid (below_next hW.out he5); have hsz2 := HW2.out.size; clear hown1 hg1 he2 he3 he4 he5 hcells hii hi0 hi2 hi3) | (at_builtin; refine own_append' olRd w1.heap.size w.heap.size w.heap.size rfl rfl _ _ 23 22 (.slice none 0 0) 24 (by rfl) UF IF rfl (by decide) (by decide) _ es' e2 [.slice (some ⟨e2.g, 0, none⟩) l.length e2.cap] (by rfl) (by rfl) HP2.out (by decide) HO2.out (Nat.le_refl _) hsz2 hlen ?_; intro v3 w3 hO3 hg3; have HR := Lib.hid (And.intro hO3 (Rd.Own.below_of HO2.out HW2.out hg3)); clear hO3 hg3))
                    go_roundw
                    case rel => exact ⟨k + 1, _, by omega, by go_num, HR.out.1, HN2.out, by rw [Hid, List.map_append, hE.out, List.take_succ_eq_append_getElem hlt, List.append_assoc]; congr 2; simp only [List.map_cons, List.map_nil]; rw [HE2.out, ← HGE.out, List.getD_eq_getElem?_getD, List.getElem?_eq_getElem hlt, Option.getD_some], HR.out.2⟩
                    case measure => simp [intOf]; omega
                  · obtain rfl : k = L.length := by omega
                    go_wp2
                    go_ret2
                    refine ⟨_, es', ?_, hO.out, hN.out, ?_, hW.out⟩
                    · rw [err0 HTB.out hall2.out hall3.out]; rfl
                    · have := hE.out
                      rw [List.take_length] at this
                      rw [err0 HTB.out hall2.out hall3.out, if_pos rfl, this]; rfl
              · go_wp2
                obtain ⟨wo, rfl⟩ : ∃ wo : World, wo = wr := ⟨_, rfl⟩
                clear c2 c3 d1 d2
                go_loopw [10, 14, 102] (fun v _ iv wr => ∃ (k : Nat) (es : List OL), k ≤ L.length ∧ iv = .int .i64 k ∧ Hid (olRd.Own 22 wr w.heap.size w.heap.size v es) ∧ Hid ((es.map (·.g)).Nodup) ∧ Hid (es.map (·.l) = (if 0 ≤ T then rowsS m T.toNat m else []) ++ L.take k) ∧ Hid (Below w.heap.size w wr)) (fun _ _ iv _ => L.length - (intOf iv).toNat)
                case atStart => exact ⟨0, es, by omega, rfl, hO.out, hN.out, by rw [Hid, List.take_zero, List.append_nil]; exact HE3.out, hW.out⟩
                case round =>
                  obtain ⟨k, es', hk, rfl, hO, hN, hE, hW⟩ := hrel
                  obtain ⟨vA', vc', rfl, _, _⟩ := hO.out.row
                  by_cases hlt : k < L.length
                  · obtain ⟨b, B, l, lc, rfl, hcg, hge, hlc, hlC, hrow⟩ := bsl_at (HRL.out wr hW.out) hlt
                    have hll : (l.length : Int) = m + 1 := by
                      have := allL_getD hall2.out hlt
                      simp only [hge.out] at this
                      exact of_decide_eq_true this
                    have hl0 : 0 < l.length := by omega
                    have hl257 : l.length ≤ 257 := by omega
                    obtain ⟨ba, _, hBa, _⟩ := f64at hrow hl0
                    subst hBa
                    have hcells := f64_cells hrow
                    have hlb := f64bd hrow
                    have hi1 : (k : Int) < (L.length : Int) := by omega
                    obtain ⟨ii, hii, hi0, hi2, hi3⟩ := info_parts' IF1
                    have HLB := Lib.hid hlb
                    have HGE := hge
                    have hlen : (es'.length + 1) * 24 ≤ 140737488355328 := by
                      have h1 := own_len hO.out hE.out
                      rw [List.length_append, List.length_take] at h1
                      have h2 : (if 0 ≤ T then rowsS m T.toNat m else []).length ≤ m := by
                        split
                        · exact rowsS_len _ _ _
                        · exact Nat.zero_le _
                      omega
                    have hwsz := hW.out.size
                    clear hll hrow hlb hge
                    go_wp2_with (first | (at_builtin; refine wpList_append_own _ rfl (.const (.slice none 0 0)) (.tmp 107) 22 (by rfl) wr.heap.size 47 ii (.float .f64 0) 1 8 UF1 hii hi0 hi2 hi3 rfl (by decide) (.slice none 0 0) 0 [] (by rfl) (World.ownsRow_nil _ _ _ _) ba l.length lc (f64s l) (by rfl) (by simp [f64s]) hcells (by intro u hu; simp [f64s] at hu; obtain ⟨x, _, rfl⟩ := hu; rfl) (by simp only [maxLen]; omega) (by omega) (Nat.le_refl _) ?_; intro v1 w1 hown1 hg1 _; obtain ⟨e2, rfl, he2, he3, he4, he5⟩ := new_list (B := w.heap.size) (n := 0) hown1 hg1 hl0 hl257 HLB.out hwsz; have HN2 := Lib.hid (nodup_new hO.out hN.out e2 he3); have HO2 := Lib.hid (hO.out.below he5); have HP2 := Lib.hid he4; have HE2 := Lib.hid he2; have HW2 := Lib.hid (below_next hW.out he5); have hsz2 := HW2.out.size; clear hown1 hg1 he2 he3 he4 he5 hcells hii hi0 hi2 hi3) | (at_builtin; refine own_append' olRd w1.heap.size w.heap.size w.heap.size rfl rfl _ _ 23 22 (.slice none 0 0) 24 (by rfl) UF IF rfl (by decide) (by decide) _ es' e2 [.slice (some ⟨e2.g, 0, none⟩) l.length e2.cap] (by rfl) (by rfl) HP2.out (by decide) HO2.out (Nat.le_refl _) hsz2 hlen ?_; intro v3 w3 hO3 hg3; have HR := Lib.hid (And.intro hO3 (Rd.Own.below_of HO2.out HW2.out hg3)); clear hO3 hg3))
                    go_roundw
                    case rel => exact ⟨k + 1, _, by omega, by go_num, HR.out.1, HN2.out, by rw [Hid, List.map_append, hE.out, List.take_succ_eq_append_getElem hlt, List.append_assoc]; congr 2; simp only [List.map_cons, List.map_nil]; rw [HE2.out, ← HGE.out, List.getD_eq_getElem?_getD, List.getElem?_eq_getElem hlt, Option.getD_some], HR.out.2⟩
                    case measure => simp [intOf]; omega
                  · obtain rfl : k = L.length := by omega
                    go_wp2
                    go_ret2
                    refine ⟨_, es', ?_, hO.out, hN.out, ?_, hW.out⟩
                    · rw [err0 HTB.out hall2.out hall3.out]; rfl
                    · have := hE.out
                      rw [List.take_length] at this
                      rw [err0 HTB.out hall2.out hall3.out, if_pos rfl, this]; rfl
theorem mclaims_calls (p : Pr) (cs : List Value) (m : Int) (w : World) (base : Nat) (h : prRd.R w base p cs) (hL3 : p.L.length ≤ 1000000) :
    Calls Tryz.prog 9 #[.agg cs.toArray, .int .i64 m] w (ClaimsPost p m w) := by
  by_cases hb : tbadB p m = true
  · refine (mclaims_bad p cs m w base h hb).mono ?_
    rintro e w' ⟨rfl, hW⟩
    exact claims_err (c := 68) (by unfold errS; rw [hb]; rfl) (by decide) hW
  · have hb' : tbadB p m = false := by simpa using hb
    have hm : 0 ≤ m := by
      unfold tbadB at hb'
      simp only [Bool.or_eq_false_iff, decide_eq_false_iff_not] at hb'
      omega
    obtain ⟨n, rfl⟩ := Int.eq_ofNat_of_zero_le hm
    by_cases h5 : p.L.length = 0
    · exact mclaims_e p cs n w base h hb' h5 hL3
    · exact mclaims_ne p cs n w base h hb' h5 hL3
end Go.Proofs.YtcfejobdgiiihaaGreatDoor
