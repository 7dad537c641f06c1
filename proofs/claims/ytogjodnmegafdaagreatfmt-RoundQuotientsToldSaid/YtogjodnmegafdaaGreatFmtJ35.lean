/- Walks and plain laws of this seat's functions, part 35: G28 G31 G31b. -/
import Derived.Test.YtogjodnmegafdaaGreatFmtJ32
import Derived.Test.YtogjodnmegafdaaGreatFmtJ34
set_option linter.unusedVariables false
set_option linter.unusedSimpArgs false
namespace Go.Proofs.YtogjodnmegafdaaGreatFmt
open Go.RowKit
attribute [local go_sem ↓] Go.wp_at_zero Go.wp_at_succ

/-! ### round.Div, of any two -/
theorem div_true {d : Int} {u v : Nat} (h : pairB d u v = true) (h0 : uabs v ≠ 0) : divS d u v = if uabs u = 0 then some 0 else qS d (fneg u != fneg v) (rv (uabs u)) (rv (uabs v)) := by
  unfold divS; rw [h, decide_eq_true h0, Bool.and_self, if_pos rfl]
theorem div_false1 {d : Int} {u v : Nat} (h : pairB d u v = false) : divS d u v = none := by unfold divS; rw [h, Bool.false_and, if_neg (by decide)]
theorem div_false2 {d : Int} {u v : Nat} (h0 : uabs v = 0) : divS d u v = none := by unfold divS; rw [decide_eq_false (by omega), Bool.and_false, if_neg (by decide)]
set_option maxHeartbeats 1000000 in
set_option maxRecDepth 100000 in
theorem rdiv_none1 (d : Int) (u v : Nat) (hu : u < 18446744073709551616) (hv : v < 18446744073709551616) (hp : pairB d u v = false) (w : World) :
    Calls Tryz.prog 11 #[.int .i64 d, .float .f64 u, .float .f64 v] w fun e w' => e = fRet2 none ∧ Below w.heap.size w w' := by
  have HP := Lib.hid (fun W => pair_calls d u v hu hv W)
  rw [hp] at HP
  clear hu hv hp
  go_enter Tryz.func11, Tryz.ntmps11
  go_wp2_with fail
  refine (HP.out _).mono ?_
  rintro e w' ⟨rfl, rfl⟩
  go_wp2
  go_ret2
  exact ⟨rfl, Below.refl _ _⟩
set_option maxHeartbeats 1000000 in
set_option maxRecDepth 100000 in
theorem rdiv_none2 (d : Int) (u v : Nat) (hu : u < 18446744073709551616) (hv : v < 18446744073709551616) (hp : pairB d u v = true) (h0 : (FloatKind.f64.format.order v 0 == some .eq) = true) (w : World) :
    Calls Tryz.prog 11 #[.int .i64 d, .float .f64 u, .float .f64 v] w fun e w' => e = fRet2 none ∧ Below w.heap.size w w' := by
  have HP := Lib.hid (fun W => pair_calls d u v hu hv W)
  rw [hp] at HP
  clear hu hv hp
  go_enter Tryz.func11, Tryz.ntmps11
  go_wp2_with fail
  refine (HP.out _).mono ?_
  rintro e w' ⟨rfl, rfl⟩
  go_wp2
  go_ret2
  exact ⟨rfl, Below.refl _ _⟩
theorem rv_ne {r : Nat} (h : r ≠ 0) : rv r ≠ 0 := by have := rv_pos h; omega
theorem rdiv_calls (d : Int) (u v : Nat) (hu : u < 18446744073709551616) (hv : v < 18446744073709551616) (w : World) :
    Calls Tryz.prog 11 #[.int .i64 d, .float .f64 u, .float .f64 v] w fun e w' => e = fRet2 (divS d u v) ∧ Below w.heap.size w w' := by
  rcases hp : pairB d u v with _ | _
  · rw [div_false1 hp]; exact rdiv_none1 d u v hu hv hp w
  · obtain ⟨fu, fv', hd1, hd2⟩ := pairB_true hp
    obtain ⟨ew, hr⟩ := word_of hu fu
    obtain ⟨ev, hs⟩ := word_of hv fv'
    have hvz := eq_zero_f (b := fneg v) (Nat.le_of_lt hs)
    rw [← ev] at hvz
    by_cases h0 : uabs v = 0
    · rw [div_false2 h0]
      rw [decide_eq_true h0] at hvz
      exact rdiv_none2 d u v hu hv hp hvz w
    · rw [decide_eq_false h0] at hvz
      have hvl := lt_zero_f (b := fneg v) (Nat.le_of_lt hs) h0
      rw [← ev] at hvl
      rw [div_true hp h0]
      have hfv := fv_word (neg := fneg v) hs
      rw [← ev] at hfv
      have hfu := fv_word (neg := fneg u) hr
      rw [← ew] at hfu
      by_cases hr0 : uabs u = 0
      · rw [if_pos hr0]
        have hq := div_zero_word (a := fneg u) (b := fneg v) hs h0
        rw [← ev] at hq
        rw [hr0] at ew hfu
        rw [← ew] at hq
        refine (rdiv_fin d u v 0 (fneg u != fneg v) (fneg v) hu hv hp hvz hvl hq (by decide) 0 ?_ w).mono ?_
        · rw [hfu, rv_zero, sg_zero, sg_zero, Int.zero_mul, Int.zero_mul, Int.zero_mul, Int.zero_mul, Int.sub_self]; rfl
        · rintro e w' ⟨rfl, hW⟩
          refine ⟨?_, hW⟩
          refine congrArg fRet2 ?_
          have e1 : (if fneg v = true then -(0 : Int) else 0) = 0 := by cases fneg v <;> rfl
          rw [e1]
          unfold sideS
          simp only [Int.lt_irrefl, and_false, if_false]
          rw [if_neg (by decide), sgnR_zero]
      · rw [if_neg hr0]
        have hq := div_word (a := fneg u) (b := fneg v) hr hs hr0 h0
        rw [← ev, ← ew] at hq
        have hsp := side_spec ⟨hd1, hd2⟩ (fneg u != fneg v) (restQ (rv (uabs u)) (rv (uabs v))) (hQ (rv (uabs u)) (rv (uabs v))) (eQ (rv (uabs u)) (rv (uabs v)))
        have hqs : qS d (fneg u != fneg v) (rv (uabs u)) (rv (uabs v)) = toldR d (fneg u != fneg v) (hQ (rv (uabs u)) (rv (uabs v))) (restQ (rv (uabs u)) (rv (uabs v))) (eQ (rv (uabs u)) (rv (uabs v))) := by rw [qS]
        rw [hqs, ← hsp]
        rcases Nat.lt_or_ge (r0R (hQ (rv (uabs u)) (rv (uabs v))) (restQ (rv (uabs u)) (rv (uabs v))) (eQ (rv (uabs u)) (rv (uabs v)))) INFR with hlt | hge
        · have hcmp := div_cmp (a := fneg u) (b := fneg v) (rq := nearR (hQ (rv (uabs u)) (rv (uabs v))) (restQ (rv (uabs u)) (rv (uabs v))) (eQ (rv (uabs u)) (rv (uabs v)))) (rv_ne hr0) (rv_ne h0) hlt rfl
          rw [← hcmp]
          refine rdiv_fin d u v _ (fneg u != fneg v) (fneg v) hu hv hp hvz hvl hq ?_ _ ?_ w
          · unfold nearR; rw [Nat.min_eq_left (Nat.le_of_lt hlt)]; exact hlt
          · rw [hfu, hfv]
        · have hn : nearR (hQ (rv (uabs u)) (rv (uabs v))) (restQ (rv (uabs u)) (rv (uabs v))) (eQ (rv (uabs u)) (rv (uabs v))) = INFR := by unfold nearR; exact Nat.min_eq_right hge
          have ha : accR (fneg u != fneg v) (hQ (rv (uabs u)) (rv (uabs v))) (restQ (rv (uabs u)) (rv (uabs v))) (eQ (rv (uabs u)) (rv (uabs v))) = if (fneg u != fneg v) then -1 else 1 := by unfold accR; rw [if_pos hge]
          rw [hn] at hq ⊢
          rw [ha]
          exact rdiv_inf d u v INFR (fneg u != fneg v) hu hv hp hvz hq ⟨hd1, hd2⟩ w
end Go.Proofs.YtogjodnmegafdaaGreatFmt

namespace Go.Proofs.YtogjodnmegafdaaGreatFmt
open Go.RowKit
attribute [local go_sem ↓] Go.wp_at_zero Go.wp_at_succ

/-! ### Copy, SetMantExp -/
/-- a number in the block b, its mantissa its own -/
def CopyP (w : World) (b m : Nat) (acc form ex : Int) (neg : Bool) : Prop := ∃ (v : Value) (B : Nat), Blk w b 65 (fC 2300 acc form neg v ex) ∧ OwnN w B m v ∧ b < B
set_option exponentiation.threshold 3000 in
set_option maxHeartbeats 4000000 in
set_option maxRecDepth 100000 in
theorem copy_fin (b bx n m B : Nat) (ax ex : Int) (neg : Bool) (v : Value) (w : World) (hb : Blk w b 65 (fC 2300 0 0 false (.slice none 0 0) 0)) (hx : Blk w bx 65 (fC 2300 ax 1 neg v ex)) (hO : OwnN w B m v) (hne : b ≠ bx)
    (hbl : bl m = 64 * n) (h0 : 0 < n) (h35 : n ≤ 35) :
    Calls Tryz.prog 80 #[.pointer (some ⟨b, 0, none⟩), .pointer (some ⟨bx, 0, none⟩)] w fun e w' => e = .returned (.pointer (some ⟨b, 0, none⟩)) ∧ CopyP w' b m ax 1 ex neg ∧ Below b w w' := by
  have hm0 : m ≠ 0 := by intro h; subst h; rw [bl_zero] at hbl; omega
  obtain ⟨A, n', c, rfl, _⟩ := hO.shape
  have hw := hO.words hm0
  obtain rfl : n' = n := by omega
  obtain ⟨x0, x1, x2, x3, x4, x5, x6⟩ := sev hx
  obtain ⟨z0, z1, z2, z3, z4, z5, z6⟩ := sev hb
  obtain ⟨f0, f1, f2, f3, f4, f5, f6⟩ := frz hb
  have hbx : ¬ bx = b := fun h => hne h.symm
  have hneq1 := neq_flt_other w (a := ⟨b, 0, none⟩) (b := ⟨bx, 0, none⟩) (by intro h; injection h with h; exact hne h) hb hx
  have HB := Lib.hid (And.intro hb (And.intro hx (And.intro hO hm0)))
  have hL : m < B64 ^ 36 := by
    rw [pow64]; exact Nat.lt_of_lt_of_le (bl_lt m) (Nat.pow_le_pow_right (by decide) (by omega))
  have HL := Lib.hid hL
  have HN := Lib.hid (And.intro hbl (And.intro h0 h35))
  clear hb hx hO hbl h0 h35 hw hm0 hL
  go_enter Tryz.func80, Tryz.ntmps80
  go_wp2
  obtain ⟨k1, k2, k3, k4⟩ := HB.out
  have hb1 : Blk (((((w.setCell ⟨b, 0, none⟩ (.int .u32 2300)).setCell ⟨b, 1, none⟩ (.int .u8 0)).setCell ⟨b, 2, none⟩ (.int .i8 ax)).setCell ⟨b, 3, none⟩ (.int .u8 1)).setCell ⟨b, 4, none⟩ (.bool neg)) b 65 (fC 2300 ax 1 neg (.slice none 0 0) 0) := (((((k1.set 0 (.int .u32 2300)).set 1 (.int .u8 0)).set 2 (.int .i8 ax)).set 3 (.int .u8 1)).set 4 (.bool neg))
  have hx1 : Blk (((((w.setCell ⟨b, 0, none⟩ (.int .u32 2300)).setCell ⟨b, 1, none⟩ (.int .u8 0)).setCell ⟨b, 2, none⟩ (.int .i8 ax)).setCell ⟨b, 3, none⟩ (.int .u8 1)).setCell ⟨b, 4, none⟩ (.bool neg)) bx 65 (fC 2300 ax 1 neg (.slice A n' c) ex) := (((((k2.set_far hbx 0 (.int .u32 2300)).set_far hbx 1 (.int .u8 0)).set_far hbx 2 (.int .i8 ax)).set_far hbx 3 (.int .u8 1)).set_far hbx 4 (.bool neg))
  have hO1 : OwnN (((((w.setCell ⟨b, 0, none⟩ (.int .u32 2300)).setCell ⟨b, 1, none⟩ (.int .u8 0)).setCell ⟨b, 2, none⟩ (.int .i8 ax)).setCell ⟨b, 3, none⟩ (.int .u8 1)).setCell ⟨b, 4, none⟩ (.bool neg)) B m (.slice A n' c) := (((((k3.setF k1 0 (.int .u32 2300)).setF (k1.set 0 (.int .u32 2300)) 1 (.int .u8 0)).setF ((k1.set 0 (.int .u32 2300)).set 1 (.int .u8 0)) 2 (.int .i8 ax)).setF (((k1.set 0 (.int .u32 2300)).set 1 (.int .u8 0)).set 2 (.int .i8 ax)) 3 (.int .u8 1)).setF ((((k1.set 0 (.int .u32 2300)).set 1 (.int .u8 0)).set 2 (.int .i8 ax)).set 3 (.int .u8 1)) 4 (.bool neg))
  have hW1 : Below b w (((((w.setCell ⟨b, 0, none⟩ (.int .u32 2300)).setCell ⟨b, 1, none⟩ (.int .u8 0)).setCell ⟨b, 2, none⟩ (.int .i8 ax)).setCell ⟨b, 3, none⟩ (.int .u8 1)).setCell ⟨b, 4, none⟩ (.bool neg)) := ((((((Below.refl b w).setCell (p := ⟨b, 0, none⟩) (Nat.le_refl _) (.int .u32 2300)).setCell (p := ⟨b, 1, none⟩) (Nat.le_refl _) (.int .u8 0)).setCell (p := ⟨b, 2, none⟩) (Nat.le_refl _) (.int .i8 ax)).setCell (p := ⟨b, 3, none⟩) (Nat.le_refl _) (.int .u8 1)).setCell (p := ⟨b, 4, none⟩) (Nat.le_refl _) (.bool neg))
  obtain ⟨w1, hw1⟩ : ∃ W, ((((w.setCell ⟨b, 0, none⟩ (.int .u32 2300)).setCell ⟨b, 1, none⟩ (.int .u8 0)).setCell ⟨b, 2, none⟩ (.int .i8 ax)).setCell ⟨b, 3, none⟩ (.int .u8 1)).setCell ⟨b, 4, none⟩ (.bool neg) = W := ⟨_, rfl⟩
  rw [hw1] at hb1 hx1 hO1 hW1 ⊢
  have H1 := Lib.hid (And.intro hb1 (And.intro hx1 (And.intro hO1 hW1)))
  have HS := Lib.hid (fun (W : World) (hW : Below w1.heap.size w1 W) => nset_calls (.slice none 0 0) (.slice A n' c) 0 m W W.heap.size B (.inl ⟨rfl, rfl⟩) (Nat.le_refl _) (H1.out.2.2.1.keep hW) 36 HL.out (by decide))
  clear hw1 hb1 hx1 hO1 hW1 k1 k2 k3 k4 x0 x1 x2 x3 x4 x5 x6 z0 z1 z2 z3 z4 z5 z6 f0 f1 f2 f3 f4 f5 f6 hneq1
  obtain ⟨x0, x1, x2, x3, x4, x5, x6⟩ := sev H1.out.2.1
  obtain ⟨z0, z1, z2, z3, z4, z5, z6⟩ := sev H1.out.1
  obtain ⟨f0, f1, f2, f3, f4, f5, f6⟩ := frz H1.out.1
  go_region_with (go_at_call 102; refine (HS.out _ (by repeat (first | exact Below.refl _ _ | (with_reducible apply below_drewN) | (with_reducible apply Below.drew)))).mono ?_; rintro e w2 ⟨v, rfl, hO2, hW2⟩; have hw2 := hO2; have HO22 := Lib.hid hO2; obtain ⟨g, Z, n2, rfl, hgB, hgb, hz, hn2, hl2, ht2, hv2⟩ := hO2.resolve_left (fun h => HB.out.2.2.2 h.2); have hwd := OwnN.words hw2 HB.out.2.2.2; have hb12 : Below w1.heap.size w1 w2 := Below.trans (by repeat (first | exact Below.refl _ _ | (with_reducible apply below_drewN) | (with_reducible apply Below.drew))) hW2; have H2 : Hid (Blk w2 b 65 (fC 2300 ax 1 neg (.slice none 0 0) 0) ∧ Blk w2 bx 65 (fC 2300 ax 1 neg (.slice A n' c) ex) ∧ Blk w2 g 103 (i64s Z) ∧ (∀ d ∈ Z, d < B64) ∧ n2 ≤ Z.length ∧ Z.length ≤ 1099511627776 ∧ val B64 (Z.take n2) = m ∧ n2 = n' ∧ b < g ∧ Below b w w2) := ⟨H1.out.1.below' hb12, H1.out.2.1.below' hb12, hgb, hz, hn2, hl2, hv2, by have := HN.out.1; omega, Nat.lt_of_lt_of_le H1.out.1.lt hgB, H1.out.2.2.2.trans (hb12.mono (Nat.le_of_lt H1.out.1.lt))⟩; clear hw2 hgB hgb hz hn2 hl2 ht2 hv2 hwd hb12 hW2 hO2; obtain ⟨y0, y1, y2, y3, y4, y5, y6⟩ := sev H2.out.1; obtain ⟨g0, g1, g2, g3, g4, g5, g6⟩ := frz H2.out.1)
  all_goals (
    obtain rfl : n2 = n' := H2.out.2.2.2.2.2.2.2.1
    have hb3 : Blk (w2.setCell ⟨b, 5, none⟩ (.slice (some ⟨g, 0, none⟩) n2 Z.length)) b 65 (fC 2300 ax 1 neg (.slice (some ⟨g, 0, none⟩) n2 Z.length) 0) := H2.out.1.set 5 _
    have hx3 : Blk (w2.setCell ⟨b, 5, none⟩ (.slice (some ⟨g, 0, none⟩) n2 Z.length)) bx 65 (fC 2300 ax 1 neg (.slice A n2 c) ex) := H2.out.2.1.set_far hbx 5 _
    have hg3 : Blk (w2.setCell ⟨b, 5, none⟩ (.slice (some ⟨g, 0, none⟩) n2 Z.length)) g 103 (i64s Z) := H2.out.2.2.1.set_far (Nat.ne_of_gt H2.out.2.2.2.2.2.2.2.2.1) 5 _
    have hW3 : Below b w (w2.setCell ⟨b, 5, none⟩ (.slice (some ⟨g, 0, none⟩) n2 Z.length)) := H2.out.2.2.2.2.2.2.2.2.2.setCell (p := ⟨b, 5, none⟩) (Nat.le_refl _) _
    have HO3 : OwnN (w2.setCell ⟨b, 5, none⟩ (.slice (some ⟨g, 0, none⟩) n2 Z.length)) w1.heap.size m (.slice (some ⟨g, 0, none⟩) n2 Z.length) := OwnN.setF HO22.out H2.out.1 5 _
    obtain ⟨w3, hw3⟩ : ∃ W, w2.setCell ⟨b, 5, none⟩ (.slice (some ⟨g, 0, none⟩) n2 Z.length) = W := ⟨_, rfl⟩
    rw [hw3] at hb3 hx3 hg3 hW3 HO3 ⊢
    have H3 := Lib.hid (And.intro hb3 (And.intro hx3 (And.intro hg3 hW3)))
    clear hb3 hx3 hg3 hW3 hw3 x0 x1 x2 x3 x4 x5 x6 z0 z1 z2 z3 z4 z5 z6 f0 f1 f2 f3 f4 f5 f6 y0 y1 y2 y3 y4 y5 y6 g0 g1 g2 g3 g4 g5 g6
    obtain ⟨x0, x1, x2, x3, x4, x5, x6⟩ := sev H3.out.2.1
    obtain ⟨z0, z1, z2, z3, z4, z5, z6⟩ := sev H3.out.1
    obtain ⟨g0, g1, g2, g3, g4, g5, g6⟩ := frz H3.out.1
    have HOO : Hid (OwnN (w3.setCell ⟨b, 6, none⟩ (.int .i32 ex)) w1.heap.size m (.slice (some ⟨g, 0, none⟩) n2 Z.length)) := HO3.setF H3.out.1 6 _
    have HB4 := Lib.hid (H3.out.1.set 6 (.int .i32 ex))
    have HW4 := Lib.hid (H3.out.2.2.2.setCell (p := ⟨b, 6, none⟩) (Nat.le_refl _) (.int .i32 ex))
    clear HO3
    go_wp2
    go_ret
    exact ⟨rfl, ⟨_, w1.heap.size, HB4.out, HOO.out, H1.out.1.lt⟩, HW4.out⟩)
set_option maxHeartbeats 4000000 in
set_option maxRecDepth 100000 in
theorem copy_zero (b bx : Nat) (ax ex : Int) (neg : Bool) (v : Value) (w : World) (hb : Blk w b 65 (fC 2300 0 0 false (.slice none 0 0) 0)) (hx : Blk w bx 65 (fC 2300 ax 0 neg v ex)) (hne : b ≠ bx) :
    Calls Tryz.prog 80 #[.pointer (some ⟨b, 0, none⟩), .pointer (some ⟨bx, 0, none⟩)] w fun e w' => e = .returned (.pointer (some ⟨b, 0, none⟩)) ∧ Blk w' b 65 (fC 2300 ax 0 neg (.slice none 0 0) 0) ∧ Below b w w' := by
  obtain ⟨x0, x1, x2, x3, x4, x5, x6⟩ := sev hx
  obtain ⟨z0, z1, z2, z3, z4, z5, z6⟩ := sev hb
  obtain ⟨f0, f1, f2, f3, f4, f5, f6⟩ := frz hb
  have hbx : ¬ bx = b := fun h => hne h.symm
  have hneq1 := neq_flt_other w (a := ⟨b, 0, none⟩) (b := ⟨bx, 0, none⟩) (by intro h; injection h with h; exact hne h) hb hx
  have k1 := Lib.hid hb
  clear hb hx
  go_enter Tryz.func80, Tryz.ntmps80
  go_wp2
  go_ret
  exact ⟨rfl, (((((k1.out.set 0 (.int .u32 2300)).set 1 (.int .u8 0)).set 2 (.int .i8 ax)).set 3 (.int .u8 0)).set 4 (.bool neg)), ((((((Below.refl b w).setCell (p := ⟨b, 0, none⟩) (Nat.le_refl _) (.int .u32 2300)).setCell (p := ⟨b, 1, none⟩) (Nat.le_refl _) (.int .u8 0)).setCell (p := ⟨b, 2, none⟩) (Nat.le_refl _) (.int .i8 ax)).setCell (p := ⟨b, 3, none⟩) (Nat.le_refl _) (.int .u8 0)).setCell (p := ⟨b, 4, none⟩) (Nat.le_refl _) (.bool neg))⟩
end Go.Proofs.YtogjodnmegafdaaGreatFmt

namespace Go.Proofs.YtogjodnmegafdaaGreatFmt
open Go.RowKit
attribute [local go_sem ↓] Go.wp_at_zero Go.wp_at_succ

/-! ### SetMantExp -/
set_option maxHeartbeats 1000000 in
set_option maxRecDepth 100000 in
theorem setmant_fin (b bx n m B : Nat) (ax ex k : Int) (neg : Bool) (v : Value) (w : World) (hb : Blk w b 65 (fC 2300 0 0 false (.slice none 0 0) 0)) (hx : Blk w bx 65 (fC 2300 ax 1 neg v ex)) (hO : OwnN w B m v) (hne : b ≠ bx)
    (hbl : bl m = 64 * n) (h0 : 0 < n) (h35 : n ≤ 35) (he : -20000 ≤ ex + k ∧ ex + k ≤ 20000) (hexb : -20000 ≤ ex ∧ ex ≤ 20000) :
    Calls Tryz.prog 48 #[.pointer (some ⟨b, 0, none⟩), .pointer (some ⟨bx, 0, none⟩), .int .i64 k] w fun e w' => e = .returned (.pointer (some ⟨b, 0, none⟩)) ∧ CopyP w' b m 0 1 (ex + k) neg ∧ Below b w w' := by
  have HC := Lib.hid (copy_fin b bx n m B ax ex neg v w hb hx hO hne hbl h0 h35)
  have hm0 : m ≠ 0 := by intro h; subst h; rw [bl_zero] at hbl; omega
  have hwx : wrap64 ex = ex := by unfold wrap64; omega
  have hwe : wrap64 (ex + k) = ex + k := by unfold wrap64; omega
  have HE := Lib.hid he
  have HM := Lib.hid (And.intro hm0 (And.intro hbl h35))
  clear hb hx hO hne hbl h0 h35 he hm0 hexb
  go_enter Tryz.func48, Tryz.ntmps48
  go_wp2_with fail
  refine HC.out.mono ?_
  rintro e w1 ⟨rfl, ⟨v', B', hb1, hO1, hbB⟩, hW1⟩
  obtain ⟨A, n', c, rfl, _⟩ := hO1.shape
  have hw := hO1.words HM.out.1
  have hn35 : n' ≤ 35 := by have := HM.out.2; omega
  have H1 := Lib.hid (And.intro hb1 (And.intro hO1 hW1))
  have HBB := Lib.hid hbB
  have HSE := Lib.hid (setexp_calls b n' c ax 1 ex (ex + k) neg A w1 hb1 hn35 HE.out)
  obtain ⟨z0, z1, z2, z3, z4, z5, z6⟩ := sev hb1
  clear hb1 hO1 hW1 hw hn35 hbB
  go_wp2_with fail
  rw [hwx, hwe]
  refine HSE.out.mono ?_
  rintro e w2 ⟨rfl, hb2, hW2⟩
  have H2 : Hid (Blk w2 b 65 (fC 2300 0 1 neg (.slice A n' c) (ex + k)) ∧ OwnN w2 B' m (.slice A n' c) ∧ Below b w w2) := ⟨hb2, H1.out.2.1.only hW2 HBB.out, H1.out.2.2.trans (hW2.below.mono (Nat.le_refl _))⟩
  clear hb2 hW2
  go_wp2
  go_ret
  exact ⟨rfl, ⟨_, B', H2.out.1, H2.out.2.1, HBB.out⟩, H2.out.2.2⟩
set_option maxHeartbeats 1000000 in
set_option maxRecDepth 100000 in
theorem setmant_zero (b bx : Nat) (ax ex k : Int) (neg : Bool) (v : Value) (w : World) (hb : Blk w b 65 (fC 2300 0 0 false (.slice none 0 0) 0)) (hx : Blk w bx 65 (fC 2300 ax 0 neg v ex)) (hne : b ≠ bx) :
    Calls Tryz.prog 48 #[.pointer (some ⟨b, 0, none⟩), .pointer (some ⟨bx, 0, none⟩), .int .i64 k] w fun e w' => e = .returned (.pointer (some ⟨b, 0, none⟩)) ∧ Blk w' b 65 (fC 2300 ax 0 neg (.slice none 0 0) 0) ∧ Below b w w' := by
  have HC := Lib.hid (copy_zero b bx ax ex neg v w hb hx hne)
  clear hb hx hne
  go_enter Tryz.func48, Tryz.ntmps48
  go_wp2_with fail
  refine HC.out.mono ?_
  rintro e w1 ⟨rfl, hb1, hW1⟩
  have H1 := Lib.hid (And.intro hb1 hW1)
  obtain ⟨z0, z1, z2, z3, z4, z5, z6⟩ := sev hb1
  clear hb1 hW1
  go_wp2
  go_ret
  exact ⟨rfl, H1.out.1, H1.out.2⟩
theorem setmant_calls (b bx K K' L : Nat) (k X : Int) (w : World) (hb : Blk w b 65 (fC 2300 0 0 false (.slice none 0 0) 0)) (hx : FVal w K 1 bx X) (hne : b ≠ bx) (hX : X.natAbs < 2 ^ L) (hK : (K' : Int) = K - k) (hL : L ≤ 9000) (hKb : K ≤ 9000) (hk : -4000 ≤ k ∧ k ≤ 4000) :
    Calls Tryz.prog 48 #[.pointer (some ⟨b, 0, none⟩), .pointer (some ⟨bx, 0, none⟩), .int .i64 k] w fun e w' => e = .returned (.pointer (some ⟨b, 0, none⟩)) ∧ FVal w' K' 1 b X ∧ Below b w w' := by
  obtain ⟨ax, form, neg, v, ex, hxb, hv⟩ := hx
  rcases hv with ⟨rfl, rfl⟩ | ⟨rfl, B, m, n, hO, hbl, h0, hn, hz, rfl, he⟩
  · refine (setmant_zero b bx ax ex k neg v w hb hxb hne).mono ?_
    rintro e w' ⟨rfl, h1, h2⟩
    exact ⟨rfl, ⟨ax, 0, neg, _, 0, h1, .inl ⟨rfl, rfl⟩⟩, h2⟩
  · have g := ex_bd hbl h0 hz neg hX
    refine (setmant_fin b bx n m B ax ex k neg v w hb hxb hO hne hbl h0 (by omega) (by omega) (by omega)).mono ?_
    rintro e w' ⟨rfl, ⟨v', B', h1, h2, -⟩, h3⟩
    refine ⟨rfl, ⟨0, 1, neg, v', ex + k, h1, .inr ⟨rfl, B', m, n, h2, hbl, h0, hn, by omega, ?_, by omega⟩⟩, h3⟩
    have e1 : (ex + k - ((64 * n : Nat) : Int) + K').toNat = (ex - ((64 * n : Nat) : Int) + K).toNat := by omega
    rw [e1]
end Go.Proofs.YtogjodnmegafdaaGreatFmt
