/- Walks and plain laws of this seat's functions, part 23: C23. -/
import Derived.Test.YtcfejobdgiiihaaGreatDoorJ22
set_option linter.unusedVariables false
set_option linter.unusedSimpArgs false
namespace Go.Proofs.YtcfejobdgiiihaaGreatDoor
open Go.RowKit
attribute [local go_sem ↓] Go.wp_at_zero Go.wp_at_succ

/-! ### ref17.Signs -/
theorem row_far {t : Nat} {w : World} {base : Nat} {a : Addr} {xs : List Int} (h : i64.Row t w base (some a) xs) {p : Addr} (hne : a.block ≠ p.block) (v : Value) : i64.Row t (w.setCell p v) base (some a) xs := by
  intro i x hi
  obtain ⟨a', cs, ha, hok, hlt, hr, hc⟩ := h i x hi
  cases ha
  have hs : (w.setCell p v).heap[a.block]? = w.heap[a.block]? := Below.heap_setCell w p v a.block hne
  refine ⟨a, cs, rfl, hok.imp id (fun ⟨c, hh⟩ => ⟨c, hs.trans hh⟩), by simpa [World.setCell] using hlt, hr, fun j u hj => ?_⟩
  exact (World.cell?_of_block (by rw [Addr.add_block]; exact hs)).trans (hc j u hj)
theorem s2_of {w W : World} {q1 q2 q3 q4 : Addr} {u1 u2 u3 u4 : Value} (h1 : w.cell? q1 = some u1) (h2 : w.cell? q2 = some u2) (h3 : w.cell? q3 = some u3) (h4 : w.cell? q4 = some u4) (hW : Below w.heap.size w W) {p : Addr} {v : Value} (n1 : q1.block ≠ p.block) (n2 : q2.block ≠ p.block) (n3 : q3.block ≠ p.block) (n4 : q4.block ≠ p.block) :
    (W.setCell p v).cell? q1 = some u1 ∧ (W.setCell p v).cell? q2 = some u2 ∧ (W.setCell p v).cell? q3 = some u3 ∧ (W.setCell p v).cell? q4 = some u4 := by
  have f : ∀ {q : Addr} {u : Value}, w.cell? q = some u → q.block ≠ p.block → (W.setCell p v).cell? q = some u := fun h hn => (World.cell?_of_block (Below.heap_setCell W p v _ hn)).trans (cell_kept hW h)
  exact ⟨f h1 n1, f h2 n2, f h3 n3, f h4 n4⟩
def SgRet (xs : List Int) (w : World) (e : Ending) (w' : World) : Prop := ∃ A c, e = .returned (.slice A xs.length c) ∧ i64.Row 3 w' w.heap.size A xs ∧ Below w.heap.size w w'
theorem isI (x : List Int) (h : ∀ d ∈ x, InInt d) {w : World} {g base : Nat} (hb : Blk w g 3 (iInts x)) : i64.Row 3 w base (some ⟨g, 0, none⟩) x :=
  Blk.row hb (List.take_of_length_le (by simp [iInts])) h
theorem sgS_bd (z : Zn) (a : List Nat) (k : Nat) : ∀ c, ∀ d ∈ sgS z a k c, InInt d
  | 0, d, h => by rw [sgS] at h; obtain ⟨_, rfl⟩ := List.mem_replicate.1 h; exact ⟨by decide, by decide⟩
  | c + 1, d, h => by
    rw [sgS] at h
    split at h
    · rcases List.mem_or_eq_of_mem_set h with h | h
      · exact sgS_bd z a k c d h
      · subst h
        have := sign_bd (dotS a (z.G.getD c []) z.N.toNat)
        exact ⟨by omega, by omega⟩
    · exact sgS_bd z a k c d h
set_option maxHeartbeats 4000000 in
set_option maxRecDepth 100000 in
theorem rsigns_nil (z : Zn) (cs : List Value) (A : Option Addr) (n c : Nat) (k : Int) (w : World) (b1 : Nat) (h : rzRd.R w b1 z cs) (hk : k < 0 ∨ 256 < k) :
    Calls Tryz.prog 21 #[.agg cs.toArray, .slice A n c, .int .i64 k] w fun e w' => e = .returned (.slice none 0 0) ∧ Below w.heap.size w w' := by
  obtain ⟨AC, AI, AG, AR, cC, cI, cG, cR, rfl, hr, hl⟩ := h
  clear hr hl
  by_cases h1 : k < 0
  · clear hk
    go_enter Tryz.func21, Tryz.ntmps21
    go_wp2
    go_ret
    exact ⟨rfl, below_new (Below.refl _ _) _⟩
  · have h2 : 256 < k := by omega
    clear hk
    go_enter Tryz.func21, Tryz.ntmps21
    go_wp2
    go_ret
    exact ⟨rfl, below_new (Below.refl _ _) _⟩
set_option maxHeartbeats 8000000 in
set_option maxRecDepth 100000 in
theorem rsigns_some (z : Zn) (cs : List Value) (A : Option Addr) (a : List Nat) (n c t b1 b2 k : Nat) (w : World) (h : rzRd.R w b1 z cs) (hn : a.length = n) (ha : u64.Row t w b2 A a) (hal : n ≤ 1099511627776) (hk : k ≤ 256) :
    Calls Tryz.prog 21 #[.agg cs.toArray, .slice A n c, .int .i64 k] w (SgRet (if fitsB z a then sgS z a k z.Ids.length else List.replicate k 0) w) := by
  subst hn
  have HRE := Lib.hid (fun W (hW : Below w.heap.size w W) => reals_calls z cs W b1 w.heap.size (rzRd.below h hW) hW.size)
  have HEX := Lib.hid (fun W (hW : Below w.heap.size w W) => exact_calls A a a.length c t b2 w.heap.size W rfl (ha.below hW) hal hW.size)
  obtain ⟨AC, AI, AG, AR, cC, cI, cG, cR, rfl, hr, hl⟩ := h
  have hgl := hl.g.2
  have hil := hl.i.2
  have HW := Lib.hid (below_new (Below.refl w.heap.size w) (.cells #[.int .i64 z.N, .slice AC z.C.length cC, .slice AI z.Ids.length cI, .slice AG z.G.length cG, .slice AR z.R.length cR, .bool z.bad] 44))
  have HB := Lib.hid ((Blk.new w #[.int .i64 z.N, .slice AC z.C.length cC, .slice AI z.Ids.length cI, .slice AG z.G.length cG, .slice AR z.R.length cR, .bool z.bad] 44).alloc (.cells (madeCells #[.int .i64 0] k) 3))
  have HL := Lib.hid (Blk.new (w.alloc (.cells #[.int .i64 z.N, .slice AC z.C.length cC, .slice AI z.Ids.length cI, .slice AG z.G.length cG, .slice AR z.R.length cR, .bool z.bad] 44)) (madeCells #[.int .i64 0] k) 3)
  rw [madeI] at HL
  have hm := fun W => makeI (n := k) W (by omega)
  have hk0 : (0 : Int) ≤ (k : Int) := by omega
  have hk2 : (k : Int) ≤ 256 := by omega
  have d1 : decide ((k : Int) < 0) = false := by simp
  have d2 : decide ((256 : Int) < (k : Int)) = false := by simp; omega
  obtain ⟨sv, hsv⟩ : ∃ s, (if fitsB z a then sgS z a k z.Ids.length else List.replicate k 0) = s := ⟨_, rfl⟩
  rw [hsv]
  have HSV := Lib.hid hsv
  clear hr hl ha hsv
  go_enter Tryz.func21, Tryz.ntmps21
  go_wp2_with fail
  clear hm d1 d2
  refine (HRE.out _ (below_new HW.out _)).mono ?_
  rintro e w1 ⟨hW1, hh⟩
  have H1 := Lib.hid (And.intro (below_next (below_new HW.out _) hW1) (And.intro (HB.out.below' hW1) (HL.out.below' hW1)))
  clear hW1 HB HL
  rcases hh with ⟨hrb, rfl⟩ | ⟨hrb, BC, BI, BG, BR, dC, dI, dG, dR, rfl, hrows, hnew⟩
  · have HN := Lib.hid (show sv = List.replicate k 0 by rw [← HSV.out, (fits_no (a := a) (.inl hrb)).2]; rfl)
    clear hrb
    go_wp2_with fail
    refine (HEX.out _ (below_new H1.out.1 _)).mono ?_
    rintro e w2 ⟨B, kk, cc, rfl, hkk, hW2, hE⟩
    have H2 := Lib.hid (And.intro (below_next (below_new H1.out.1 _) hW2) ((H1.out.2.2.alloc _).below' hW2))
    clear hW2 hE
    go_wp2
    go_ret
    exact ⟨some ⟨w.heap.size + 1, 0, none⟩, k, by rw [HN.out, List.length_replicate]; rfl, by rw [HN.out]; exact isI _ (by intro d hd; obtain ⟨_, rfl⟩ := List.mem_replicate.1 hd; exact ⟨by decide, by decide⟩) (by have := H2.out.2; simpa using this), H2.out.1⟩
  · have hN := realB_n hrb
    have hN1 := hN.1
    have hN2 := hN.2
    have HRB := Lib.hid hrb
    have HRW := Lib.hid hrows
    have HNW := Lib.hid hnew
    simp only [realCs]
    clear hrb hrows hN hnew
    obtain ⟨f, hf⟩ : ∃ f, a.all fin = f := ⟨_, rfl⟩
    rw [hf] at HEX
    cases f
    · have HN := Lib.hid (show sv = List.replicate k 0 by rw [← HSV.out, (fits_no (z := z) (.inr (.inl hf))).2]; rfl)
      clear hf
      go_wp2_with fail
      refine (HEX.out _ (below_new H1.out.1 _)).mono ?_
      rintro e w2 ⟨B, kk, cc, rfl, hkk, hW2, hE⟩
      have H2 := Lib.hid (And.intro (below_next (below_new H1.out.1 _) hW2) ((H1.out.2.2.alloc _).below' hW2))
      clear hW2 hE
      go_wp2
      go_ret
      exact ⟨some ⟨w.heap.size + 1, 0, none⟩, k, by rw [HN.out, List.length_replicate]; rfl, by rw [HN.out]; exact isI _ (by intro d hd; obtain ⟨_, rfl⟩ := List.mem_replicate.1 hd; exact ⟨by decide, by decide⟩) (by have := H2.out.2; simpa using this), H2.out.1⟩
    · by_cases hln : (a.length : Int) = z.N + 1
      · have HFI := Lib.hid (fits_facts (show fitsB z a = true by rw [fits_real, HRB.out, hf, decide_eq_true hln]; rfl))
        have HM := Lib.hid (show sv = sgS z a k z.Ids.length by rw [← HSV.out, fits_real, HRB.out, hf, decide_eq_true hln]; rfl)
        have e1 : ((a.length : Int) != z.N + 1) = false := by simpa using hln
        have hln1 : z.N.toNat + 1 ≤ a.length := Nat.le_of_eq HFI.out.al.symm
        clear hf hln
        go_wp2_with fail
        refine (HEX.out _ (below_new H1.out.1 _)).mono ?_
        rintro e w2 ⟨B, kk, cc, rfl, hkk, hW2, hE⟩
        obtain ⟨hke, hrow⟩ := hE trivial
        obtain rfl : a.length = kk := hke.symm
        have H2 := Lib.hid (below_next (below_new H1.out.1 _) hW2)
        have HB2 := Lib.hid ((H1.out.2.1.alloc (.cells #[.int .i64 z.N, .slice BC z.C.length dC, .slice BI z.Ids.length dI, .slice BG z.G.length dG, .slice BR z.R.length dR] 65)).below' hW2)
        have HL2 : Hid (Blk w2 (w.heap.size + 1) 3 (iInts (List.replicate k 0))) := by have := ((H1.out.2.2.alloc (.cells #[.int .i64 z.N, .slice BC z.C.length dC, .slice BI z.Ids.length dI, .slice BG z.G.length dG, .slice BR z.R.length dR] 65)).below' hW2); simpa [Hid] using this
        have HX2 := Lib.hid ((Blk.new w1 #[.int .i64 z.N, .slice BC z.C.length dC, .slice BI z.Ids.length dI, .slice BG z.G.length dG, .slice BR z.R.length dR] 65).below' hW2)
        have HR2 := Lib.hid (HRW.out.below (below_next (below_new (Below.refl _ _) (.cells #[.int .i64 z.N, .slice BC z.C.length dC, .slice BI z.Ids.length dI, .slice BG z.G.length dG, .slice BR z.R.length dR] 65)) hW2))
        have HA2 := Lib.hid hrow
        have c0 : w2.cell? ⟨w.heap.size, 0, none⟩ = some (.int .i64 z.N) := HB2.out.cell 0
        obtain ⟨bx, hbx⟩ : ∃ b, w1.heap.size = b := ⟨_, rfl⟩
        have hbx2 : w.heap.size + 2 ≤ bx := by have h1 := H1.out.2.2.lt; simp at h1; omega
        rw [hbx] at HX2 ⊢
        clear hW2 hE hke hrow hbx
        go_wp2
        clear c0 e1
        go_loopw [12] (fun i wr => ∃ j : Nat, j ≤ z.Ids.length ∧ i = .int .i64 j ∧ Hid (Below w.heap.size w wr) ∧ Hid (Blk wr (w.heap.size + 1) 3 (iInts (sgS z a k j))) ∧ Hid (Blk wr bx 65 [.int .i64 z.N, .slice BC z.C.length dC, .slice BI z.Ids.length dI, .slice BG z.G.length dG, .slice BR z.R.length dR]) ∧ Hid (i64.Row 3 wr w.heap.size BI z.Ids) ∧ Hid (gRd.Row 62 wr w.heap.size BG (z.G.map (fun g => g.map fv))) ∧ Hid (nRd.Row 72 wr w.heap.size B (a.map fv))) (fun i _ => z.Ids.length - (intOf i).toNat)
        case atStart => exact ⟨0, by omega, rfl, H2.out, HL2.out, HX2.out, HR2.out.I, HR2.out.G, HA2.out⟩
        case round =>
          obtain ⟨j, hj, rfl, hW, hL, hX, hI, hG, hA⟩ := hrel
          have x2 : wr.cell? ⟨bx, 2, none⟩ = some (.slice BI z.Ids.length dI) := hX.out.cell 2
          by_cases hlt : j < z.Ids.length
          · obtain ⟨p, x, rfl, hcx, hxb, hxe⟩ := i64at hI.out hlt
            have hids := (HFI.out.ids j hlt).1
            rw [hxe.out] at hids
            obtain ⟨id, rfl⟩ : ∃ id : Nat, x = id := ⟨x.toNat, by omega⟩
            have hpb : w.heap.size + 2 ≤ p.block := by have := HNW.out p rfl; simp at this; omega
            have hi1 : (j : Int) < (z.Ids.length : Int) := by omega
            have hi0 : (0 : Int) ≤ (j : Int) := by omega
            clear hids
            by_cases hik : id < k
            · have hig := HFI.out.ig
              obtain ⟨b, B2, c2, rfl, hcg, hrow⟩ := gat hG.out (k := j) (by omega)
              obtain ⟨hlf, hll⟩ := HFI.out.gs j (by omega)
              obtain ⟨l, hl⟩ : ∃ l, z.G.getD j [] = l := ⟨_, rfl⟩
              rw [hl] at hlf hll hcg hrow
              have hll1 : l.length ≤ z.N.toNat := Nat.le_of_eq hll
              have hi2 : (j : Int) < (z.G.length : Int) := by omega
              have hi3 : (id : Int) < (k : Int) := by omega
              have hi4 : (0 : Int) ≤ (id : Int) := by omega
              have x3 : wr.cell? ⟨bx, 3, none⟩ = some (.slice (some b) z.G.length dG) := hX.out.cell 3
              have hgb : (b.add j).block ≠ w.heap.size + 1 := by
                obtain ⟨a', cs', ha', hok, _⟩ := hG.out j ((z.G.map (fun g => g.map fv)).getD j []) (by rw [List.getD_eq_getElem?_getD, List.getElem?_eq_getElem (by rw [List.length_map]; omega)]; rfl)
                cases ha'
                rw [Addr.add_block]
                rcases hok with hok | ⟨cells, hh⟩
                · omega
                · intro e
                  rw [e] at hh
                  have := (show wr.heap[w.heap.size + 1]? = _ from hL.out).symm.trans hh
                  simp at this
              have hbn : bx ≠ w.heap.size + 1 := by omega
              have hpn : (p.add j).block ≠ w.heap.size + 1 := by rw [Addr.add_block]; omega
              have HWC := Lib.hid (fun W (hW' : Below wr.heap.size wr W) => weighs_o B B2 a l a.length l.length cc c2 72 72 w.heap.size W rfl rfl (hA.out.below hW') (hrow.below hW') HFI.out.af hlf (by omega) (by omega) hal (Nat.le_trans hW.out.size hW'.size))
              have HSG := Lib.hid (fun W cs (hr : mRd2.R W w.heap.size (dotS a l l.length) cs) => sign_calls 2148 w.heap.size (dotS a l l.length) cs W hr)
              obtain ⟨s, hs⟩ : ∃ s, Int.sign (dotS a l l.length) = s := ⟨_, rfl⟩
              have hsb := sign_bd (dotS a l l.length)
              rw [hs] at HSG hsb
              obtain ⟨hs1, hs2⟩ := hsb
              have HNX : Hid ((sgS z a k j).set id (-s) = sgS z a k (j + 1)) := by
                rw [Hid, sgS, hxe.out, if_pos (by omega), hl, ← hs, hll]; rfl
              have HLB := Lib.hid (fun W (hW' : Below wr.heap.size wr W) => hL.out.below' hW')
              clear hrow hs hl hig hlf hll
              go_wp2
              go_region_held3 (fun W => W.cell? ⟨bx, 2, none⟩ = some (.slice (some p) z.Ids.length dI) ∧ W.cell? (p.add j) = some (.int .i64 id) ∧ W.cell? ⟨bx, 3, none⟩ = some (.slice (some b) z.G.length dG) ∧ W.cell? (b.add j) = some (.slice B2 l.length c2))
                (first | (with_reducible exact keep4 x2 hcx x3 hcg H3.out) | (with_reducible exact keep4 x2 hcx x3 hcg H2'.out) | (with_reducible refine s2_of x2 hcx x3 hcg H3.out ?_ ?_ ?_ ?_; exact hbn; exact hpn; exact hbn; exact hgb) | ((try dsimp only); (repeat' apply And.intro) <;> go_keep))
                (first
                  | (go_at_call 34; refine (HWC.out _ (by (repeat (first  | exact Below.refl _ _ | (with_reducible apply below_drewN) | (with_reducible apply Below.drew) | (with_reducible apply below_new))))).mono ?_; rintro e w3 ⟨m2, A3, l2, k2, e2, rfl, hr2, hW2⟩; have H2' : Hid (Below wr.heap.size wr w3) := below_next (by (repeat (first  | exact Below.refl _ _ | (with_reducible apply below_drewN) | (with_reducible apply Below.drew) | (with_reducible apply below_new)))) hW2; have HR2' := Lib.hid hr2; clear hr2 hW2)
                  | (go_at_call 56; refine (HSG.out _ _ HR2'.out).mono ?_; rintro e w4 ⟨rfl, hW3⟩; have H3 : Hid (Below wr.heap.size wr w4) := below_next H2'.out hW3; have hcc := ((HLB.out _ H3.out).atI (i := id) (by rw [sgS_len]; exact hik)).1; have hcf := ((HLB.out _ H3.out).atI (i := id) (by rw [sgS_len]; exact hik)).2; clear hW3))
              go_wp2
              go_roundw
              case rel =>
                have hb := (HLB.out _ H3.out).setI id (-s)
                rw [HNX.out] at hb
                have kp : Keeps w.heap.size [72, 113, 62] w4 (w4.setCell ⟨w.heap.size + 1, id, none⟩ (.int .i64 (-s))) := Keeps.set_blk (HLB.out _ H3.out) (by omega) (by decide) id _
                exact ⟨j + 1, by omega, by go_num, (below_next hW.out H3.out).setCell (p := ⟨w.heap.size + 1, id, none⟩) (Nat.le_succ _) _, hb, (hX.out.below' H3.out).far (p := ⟨w.heap.size + 1, id, none⟩) (show bx ≠ w.heap.size + 1 by omega) _, row_far (hI.out.below H3.out) (show p.block ≠ w.heap.size + 1 by omega) _, (hG.out.below H3.out).keep kp (by simp) (by intro q hq; rw [gRd_E] at hq; simp at hq; rcases hq with hq | hq <;> simp [hq]), (hA.out.below H3.out).keep kp (by simp) (by intro q hq; rw [nRd_E] at hq; simp at hq; simp [hq])⟩
              case measure => simp [intOf]; omega
            · have hi3 : ¬ (id : Int) < (k : Int) := by omega
              have hnext : Hid (sgS z a k j = sgS z a k (j + 1)) := by rw [Hid, sgS, hxe.out, if_neg (by omega)]
              go_wp2
              go_roundw
              case rel => exact ⟨j + 1, by omega, by go_num, hW.out, by rw [← hnext.out]; exact hL.out, hX.out, hI.out, hG.out, hA.out⟩
              case measure => simp [intOf]; omega
          · obtain rfl : j = z.Ids.length := by omega
            go_wp2
            go_ret
            exact ⟨some ⟨w.heap.size + 1, 0, none⟩, k, by rw [HM.out, sgS_len]; rfl, by rw [HM.out]; exact isI _ (sgS_bd _ _ _ _) hL.out, hW.out⟩
      · have HN := Lib.hid (show sv = List.replicate k 0 by rw [← HSV.out, (fits_no (z := z) (.inr (.inr hln))).2]; rfl)
        have e1 : ((a.length : Int) != z.N + 1) = true := by simpa using hln
        clear hf hln
        go_wp2_with fail
        refine (HEX.out _ (below_new H1.out.1 _)).mono ?_
        rintro e w2 ⟨B, kk, cc, rfl, hkk, hW2, hE⟩
        have H2 := Lib.hid (And.intro (below_next (below_new H1.out.1 _) hW2) ((H1.out.2.2.alloc _).below' hW2))
        have HB2 := Lib.hid ((H1.out.2.1.alloc _).below' hW2)
        have c0 : w2.cell? ⟨w.heap.size, 0, none⟩ = some (.int .i64 z.N) := HB2.out.cell 0
        clear hW2 hE
        go_wp2
        go_ret
        exact ⟨some ⟨w.heap.size + 1, 0, none⟩, k, by rw [HN.out, List.length_replicate]; rfl, by rw [HN.out]; exact isI _ (by intro d hd; obtain ⟨_, rfl⟩ := List.mem_replicate.1 hd; exact ⟨by decide, by decide⟩) (by have := H2.out.2; simpa using this), H2.out.1⟩
end Go.Proofs.YtcfejobdgiiihaaGreatDoor
