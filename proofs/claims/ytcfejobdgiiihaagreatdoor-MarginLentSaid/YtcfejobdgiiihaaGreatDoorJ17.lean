/- Walks and plain laws of this seat's functions, part 17: B1 B2 B3a B3. -/
import Derived.Deep.RegionLaw
import Derived.Deep.DrawnRows
import Derived.Test.YtcfejobdgiiihaaGreatDoorJ16
set_option linter.unusedVariables false
set_option linter.unusedSimpArgs false
namespace Go.Proofs.YtcfejobdgiiihaaGreatDoor
open Go.RowKit

theorem UU1 : Tryz.prog.underlying 33 = some (.slice 50) := by kernel_rfl
theorem IU1 : (Tryz.prog.info? 50).map (fun i => (i.zero, i.size, i.bytes)) = some (some (.int .u64 0), 1, 8) := by kernel_rfl
theorem UU2 : Tryz.prog.underlying 30 = some (.slice 33) := by kernel_rfl
theorem IU2 : (Tryz.prog.info? 33).map (fun i => (i.zero, i.size, i.bytes)) = some (some (.slice none 0 0), 1, 24) := by kernel_rfl
theorem take_snocD {α : Type} {xs : List α} {k : Nat} {d x : α} (hk : k < xs.length) (hx : xs.getD k d = x) : xs.take (k + 1) = xs.take k ++ [x] := by
  rw [List.take_succ_eq_append_getElem hk, ← hx, List.getD_eq_getElem?_getD, List.getElem?_eq_getElem hk]; rfl

set_option maxHeartbeats 2000000 in
set_option maxRecDepth 100000 in
theorem bits10_calls (A : Option Addr) (l : List Nat) (n c t b1 base : Nat) (w : World) (hn : l.length = n) (hA : f64.Row t w b1 A l) (hl : n ≤ 17592186044416) (hbase : base ≤ w.heap.size) :
    Calls Tryz.prog 15 #[.slice A n c] w fun e w' => ∃ B cc, e = .returned (.slice B l.length cc) ∧ l.length ≤ cc ∧ u64.Row 50 w' base B l ∧ Below w.heap.size w w' := by
  subst hn
  have HA := Lib.hid (fun W (hW : Below w.heap.size w W) => (show f64.Row t W b1 A l from hA.below hW))
  clear hA
  go_enter Tryz.func15, Tryz.ntmps15
  go_wp2
  go_loopw [3, 4] (fun v i wr => ∃ k : Nat, k ≤ l.length ∧ i = .int .i64 k ∧ Hid (u64.Own 50 wr w.heap.size base v (l.take k)) ∧ Hid (Below w.heap.size w wr)) (fun _ i _ => l.length - (intOf i).toNat)
  case atStart => exact ⟨0, by omega, rfl, by rw [Hid, List.take_zero]; exact Rd.Own.nil _ _ _ _ _, Below.refl _ _⟩
  case round =>
    obtain ⟨k, hk, rfl, hO, hW⟩ := hrel
    have hlt0 : (l.take k).length = k := by rw [List.length_take]; omega
    obtain ⟨vA, vc, rfl, hvc0, hvrow⟩ := hO.out.row
    rw [hlt0] at hO ⊢
    by_cases hlt : k < l.length
    · obtain ⟨a, x, rfl, hcx, hxb, hxe⟩ := f64at (HA.out wr hW.out) hlt
      have HB := Lib.hid (apibits_calls x wr)
      have hi1 : (k : Int) < (l.length : Int) := by omega
      have hwsz := hW.out.size
      have hlen : (((l.take k).length) + 1) * 8 ≤ 140737488355328 := by rw [hlt0]; omega
      have HT := Lib.hid (take_snocD (d := 0) hlt hxe.out)
      have hR : Hid (u64.R wr base x [.int .u64 (x : Nat)]) := ⟨rfl, hxb⟩
      clear hlt0 hvrow hvc0
      go_wp2_with fail
      refine HB.out.mono ?_
      rintro e w' ⟨rfl, rfl⟩
      go_wp2_with (at_builtin; refine own_append' u64 wr.heap.size w.heap.size base rfl rfl _ _ 33 50 (.int .u64 0) 8 (by rfl) UU1 IU1 rfl (by decide) (by decide) _ (l.take k) x [.int .u64 (x : Nat)] (by rfl) (by rfl) hR.out (by simp [u64, Rd.scalar]) hO.out hbase hwsz hlen ?_; intro v1 w1 hO1 hg1; have HR := Lib.hid (And.intro hO1 (Rd.Own.below_of hO.out hW.out hg1)); clear hO1 hg1)
      go_roundw
      case rel => exact ⟨k + 1, by omega, by go_num, by rw [HT.out]; exact HR.out.1, HR.out.2⟩
      case measure => simp [intOf]; omega
    · obtain rfl : k = l.length := by omega
      rw [List.take_length] at hvrow
      have HV := Lib.hid hvrow
      have hvc : l.length ≤ vc := by rw [List.take_length] at hvc0; exact hvc0
      clear hlt0 hvrow hvc0
      go_wp2
      go_ret
      exact ⟨vA, vc, rfl, hvc, HV.out, hW.out⟩

set_option maxHeartbeats 2000000 in
set_option maxRecDepth 100000 in
theorem bits6_calls (A : Option Addr) (l : List Nat) (n c t b1 base : Nat) (w : World) (hn : l.length = n) (hA : f64.Row t w b1 A l) (hl : n ≤ 17592186044416) (hbase : base ≤ w.heap.size) :
    Calls Tryz.prog 42 #[.slice A n c] w fun e w' => ∃ B cc, e = .returned (.slice B l.length cc) ∧ l.length ≤ cc ∧ u64.Row 50 w' base B l ∧ Below w.heap.size w w' := by
  subst hn
  have HA := Lib.hid (fun W (hW : Below w.heap.size w W) => (show f64.Row t W b1 A l from hA.below hW))
  clear hA
  go_enter Tryz.func42, Tryz.ntmps42
  go_wp2
  go_loopw [3, 4] (fun v i wr => ∃ k : Nat, k ≤ l.length ∧ i = .int .i64 k ∧ Hid (u64.Own 50 wr w.heap.size base v (l.take k)) ∧ Hid (Below w.heap.size w wr)) (fun _ i _ => l.length - (intOf i).toNat)
  case atStart => exact ⟨0, by omega, rfl, by rw [Hid, List.take_zero]; exact Rd.Own.nil _ _ _ _ _, Below.refl _ _⟩
  case round =>
    obtain ⟨k, hk, rfl, hO, hW⟩ := hrel
    have hlt0 : (l.take k).length = k := by rw [List.length_take]; omega
    obtain ⟨vA, vc, rfl, hvc0, hvrow⟩ := hO.out.row
    rw [hlt0] at hO ⊢
    by_cases hlt : k < l.length
    · obtain ⟨a, x, rfl, hcx, hxb, hxe⟩ := f64at (HA.out wr hW.out) hlt
      have HB := Lib.hid (apibits_calls x wr)
      have hi1 : (k : Int) < (l.length : Int) := by omega
      have hwsz := hW.out.size
      have hlen : (((l.take k).length) + 1) * 8 ≤ 140737488355328 := by rw [hlt0]; omega
      have HT := Lib.hid (take_snocD (d := 0) hlt hxe.out)
      have hR : Hid (u64.R wr base x [.int .u64 (x : Nat)]) := ⟨rfl, hxb⟩
      clear hlt0 hvrow hvc0
      go_wp2_with fail
      refine HB.out.mono ?_
      rintro e w' ⟨rfl, rfl⟩
      go_wp2_with (at_builtin; refine own_append' u64 wr.heap.size w.heap.size base rfl rfl _ _ 33 50 (.int .u64 0) 8 (by rfl) UU1 IU1 rfl (by decide) (by decide) _ (l.take k) x [.int .u64 (x : Nat)] (by rfl) (by rfl) hR.out (by simp [u64, Rd.scalar]) hO.out hbase hwsz hlen ?_; intro v1 w1 hO1 hg1; have HR := Lib.hid (And.intro hO1 (Rd.Own.below_of hO.out hW.out hg1)); clear hO1 hg1)
      go_roundw
      case rel => exact ⟨k + 1, by omega, by go_num, by rw [HT.out]; exact HR.out.1, HR.out.2⟩
      case measure => simp [intOf]; omega
    · obtain rfl : k = l.length := by omega
      rw [List.take_length] at hvrow
      have HV := Lib.hid hvrow
      have hvc : l.length ≤ vc := by rw [List.take_length] at hvc0; exact hvc0
      clear hlt0 hvrow hvc0
      go_wp2
      go_ret
      exact ⟨vA, vc, rfl, hvc, HV.out, hW.out⟩

set_option maxHeartbeats 2000000 in
set_option maxRecDepth 100000 in
theorem bitsof_calls (A : Option Addr) (ls : List (List Nat)) (n c t s b1 base : Nat) (w : World) (hn : ls.length = n) (hA : (bsl s f64).Row t w b1 A ls) (hl : n ≤ 5864062014805) (hbase : base ≤ w.heap.size) :
    Calls Tryz.prog 43 #[.slice A n c] w fun e w' => ∃ B cc, e = .returned (.slice B ls.length cc) ∧ ls.length ≤ cc ∧ (bsl 50 u64).Row 33 w' base B ls ∧ Below w.heap.size w w' := by
  subst hn
  have HA := Lib.hid (fun W (hW : Below w.heap.size w W) => (show (bsl s f64).Row t W b1 A ls from hA.below hW))
  clear hA
  go_enter Tryz.func43, Tryz.ntmps43
  go_wp2
  go_loopw [3, 4] (fun v i wr => ∃ k : Nat, k ≤ ls.length ∧ i = .int .i64 k ∧ Hid ((bsl 50 u64).Own 33 wr w.heap.size base v (ls.take k)) ∧ Hid (Below w.heap.size w wr)) (fun _ i _ => ls.length - (intOf i).toNat)
  case atStart => exact ⟨0, by omega, rfl, by rw [Hid, List.take_zero]; exact Rd.Own.nil _ _ _ _ _, Below.refl _ _⟩
  case round =>
    obtain ⟨k, hk, rfl, hO, hW⟩ := hrel
    have hlt0 : (ls.take k).length = k := by rw [List.length_take]; omega
    obtain ⟨vA, vc, rfl, hvc0, hvrow⟩ := hO.out.row
    rw [hlt0] at hO ⊢
    by_cases hlt : k < ls.length
    · obtain ⟨a, B, l, lc, rfl, hcg, hge, hlc, hlC, hrow⟩ := bsl_at (HA.out wr hW.out) hlt
      have hwsz := hW.out.size
      have HB := Lib.hid (bits6_calls B l l.length lc s b1 base wr rfl hrow hlC (Nat.le_trans hbase hwsz))
      have hi1 : (k : Int) < (ls.length : Int) := by omega
      have hlen : (((ls.take k).length) + 1) * 24 ≤ 140737488355328 := by rw [hlt0]; omega
      have HT := Lib.hid (take_snocD (d := []) hlt hge.out)
      clear hlt0 hvrow hvc0 hrow
      go_wp2_with fail
      refine HB.out.mono ?_
      rintro e w2 ⟨B2, cc2, rfl, hcc2, hr2, hW2⟩
      have hR : Hid ((bsl 50 u64).R w2 base l [.slice B2 l.length cc2]) := ⟨⟨B2, cc2, rfl, hcc2, hr2⟩, hlC⟩
      have HO2 := Lib.hid (hO.out.below hW2)
      have HW2 := Lib.hid (below_next hW.out hW2)
      have hwsz2 := HW2.out.size
      clear hr2 hW2 HB
      go_wp2_with (at_builtin; refine own_append' (bsl 50 u64) w2.heap.size w.heap.size base rfl rfl _ _ 30 33 (.slice none 0 0) 24 (by rfl) UU2 IU2 rfl (by decide) (by decide) _ (ls.take k) l [.slice B2 l.length cc2] (by rfl) (by rfl) hR.out (by decide) HO2.out hbase hwsz2 hlen ?_; intro v1 w1 hO1 hg1; have HR := Lib.hid (And.intro hO1 (Rd.Own.below_of HO2.out HW2.out hg1)); clear hO1 hg1)
      go_roundw
      case rel => exact ⟨k + 1, by omega, by go_num, by rw [HT.out]; exact HR.out.1, HR.out.2⟩
      case measure => simp [intOf]; omega
    · obtain rfl : k = ls.length := by omega
      rw [List.take_length] at hvrow
      have HV := Lib.hid hvrow
      have hvc : ls.length ≤ vc := by rw [List.take_length] at hvc0; exact hvc0
      clear hlt0 hvrow hvc0
      go_wp2
      go_ret
      exact ⟨vA, vc, rfl, hvc, HV.out, hW.out⟩

set_option maxHeartbeats 2000000 in
set_option maxRecDepth 100000 in
theorem lists_calls (A : Option Addr) (ls : List (List Nat)) (n c t s b1 base : Nat) (w : World) (hn : ls.length = n) (hA : (bsl s f64).Row t w b1 A ls) (hl : n ≤ 5864062014805) (hbase : base ≤ w.heap.size) :
    Calls Tryz.prog 13 #[.slice A n c] w fun e w' => ∃ B cc, e = .returned (.slice B ls.length cc) ∧ ls.length ≤ cc ∧ (bsl 50 u64).Row 33 w' base B ls ∧ Below w.heap.size w w' := by
  subst hn
  have HA := Lib.hid (fun W (hW : Below w.heap.size w W) => (show (bsl s f64).Row t W b1 A ls from hA.below hW))
  clear hA
  go_enter Tryz.func13, Tryz.ntmps13
  go_wp2
  go_loopw [3, 4] (fun v i wr => ∃ k : Nat, k ≤ ls.length ∧ i = .int .i64 k ∧ Hid ((bsl 50 u64).Own 33 wr w.heap.size base v (ls.take k)) ∧ Hid (Below w.heap.size w wr)) (fun _ i _ => ls.length - (intOf i).toNat)
  case atStart => exact ⟨0, by omega, rfl, by rw [Hid, List.take_zero]; exact Rd.Own.nil _ _ _ _ _, Below.refl _ _⟩
  case round =>
    obtain ⟨k, hk, rfl, hO, hW⟩ := hrel
    have hlt0 : (ls.take k).length = k := by rw [List.length_take]; omega
    obtain ⟨vA, vc, rfl, hvc0, hvrow⟩ := hO.out.row
    rw [hlt0] at hO ⊢
    by_cases hlt : k < ls.length
    · obtain ⟨a, B, l, lc, rfl, hcg, hge, hlc, hlC, hrow⟩ := bsl_at (HA.out wr hW.out) hlt
      have hwsz := hW.out.size
      have HB := Lib.hid (bits10_calls B l l.length lc s b1 base wr rfl hrow hlC (Nat.le_trans hbase hwsz))
      have hi1 : (k : Int) < (ls.length : Int) := by omega
      have hlen : (((ls.take k).length) + 1) * 24 ≤ 140737488355328 := by rw [hlt0]; omega
      have HT := Lib.hid (take_snocD (d := []) hlt hge.out)
      clear hlt0 hvrow hvc0 hrow
      go_wp2_with fail
      refine HB.out.mono ?_
      rintro e w2 ⟨B2, cc2, rfl, hcc2, hr2, hW2⟩
      have hR : Hid ((bsl 50 u64).R w2 base l [.slice B2 l.length cc2]) := ⟨⟨B2, cc2, rfl, hcc2, hr2⟩, hlC⟩
      have HO2 := Lib.hid (hO.out.below hW2)
      have HW2 := Lib.hid (below_next hW.out hW2)
      have hwsz2 := HW2.out.size
      clear hr2 hW2 HB
      go_wp2_with (at_builtin; refine own_append' (bsl 50 u64) w2.heap.size w.heap.size base rfl rfl _ _ 30 33 (.slice none 0 0) 24 (by rfl) UU2 IU2 rfl (by decide) (by decide) _ (ls.take k) l [.slice B2 l.length cc2] (by rfl) (by rfl) hR.out (by decide) HO2.out hbase hwsz2 hlen ?_; intro v1 w1 hO1 hg1; have HR := Lib.hid (And.intro hO1 (Rd.Own.below_of HO2.out HW2.out hg1)); clear hO1 hg1)
      go_roundw
      case rel => exact ⟨k + 1, by omega, by go_num, by rw [HT.out]; exact HR.out.1, HR.out.2⟩
      case measure => simp [intOf]; omega
    · obtain rfl : k = ls.length := by omega
      rw [List.take_length] at hvrow
      have HV := Lib.hid hvrow
      have hvc : ls.length ≤ vc := by rw [List.take_length] at hvc0; exact hvc0
      clear hlt0 hvrow hvc0
      go_wp2
      go_ret
      exact ⟨vA, vc, rfl, hvc, HV.out, hW.out⟩
end Go.Proofs.YtcfejobdgiiihaaGreatDoor

namespace Go.Proofs.YtcfejobdgiiihaaGreatDoor
open Go.RowKit

/-- the reference's question, zonotope -/
def rpRd : Rd Pr := prG 50 33 u64 rfl
def rzRd : Rd Zn := znG 50 3 33 u64 rfl
theorem seven {w : World} {b t : Nat} {x0 x1 x2 x3 x4 x5 x6 : Value} (h : Blk w b t [x0, x1, x2, x3, x4, x5, x6]) :
    w.cell? ⟨b, 0, none⟩ = some x0 ∧ w.cell? ⟨b, 1, none⟩ = some x1 ∧ w.cell? ⟨b, 2, none⟩ = some x2 ∧ w.cell? ⟨b, 3, none⟩ = some x3 ∧ w.cell? ⟨b, 4, none⟩ = some x4 ∧ w.cell? ⟨b, 5, none⟩ = some x5 ∧ w.cell? ⟨b, 6, none⟩ = some x6 :=
  ⟨h.cell 0, h.cell 1, h.cell 2, h.cell 3, h.cell 4, h.cell 5, h.cell 6⟩
theorem six {w : World} {b t : Nat} {x0 x1 x2 x3 x4 x5 : Value} (h : Blk w b t [x0, x1, x2, x3, x4, x5]) :
    w.cell? ⟨b, 0, none⟩ = some x0 ∧ w.cell? ⟨b, 1, none⟩ = some x1 ∧ w.cell? ⟨b, 2, none⟩ = some x2 ∧ w.cell? ⟨b, 3, none⟩ = some x3 ∧ w.cell? ⟨b, 4, none⟩ = some x4 ∧ w.cell? ⟨b, 5, none⟩ = some x5 :=
  ⟨h.cell 0, h.cell 1, h.cell 2, h.cell 3, h.cell 4, h.cell 5⟩
theorem Blk.drew {w : World} {b t : Nat} {cs : List Value} (h : Blk w b t cs) : Blk w.drew b t cs := h
theorem Keeps.refl (base : Nat) (E : List Nat) (w : World) : Keeps base E w w := ⟨Nat.le_refl _, fun _ _ _ => rfl⟩
theorem Keeps.trans {base : Nat} {E : List Nat} {w1 w2 w3 : World} (h1 : Keeps base E w1 w2) (h2 : Keeps base E w2 w3) : Keeps base E w1 w3 :=
  ⟨Nat.le_trans h1.1 h2.1, fun g hg hk => by
    have e1 := h1.2 g hg hk
    refine (h2.2 g (Nat.lt_of_lt_of_le hg h1.1) (hk.imp id fun ⟨c, q, hq, hh⟩ => ⟨c, q, hq, e1.trans hh⟩)).trans e1⟩
theorem Keeps.drew {base : Nat} {E : List Nat} {w1 w2 : World} (h1 : Keeps base E w1 w2) : Keeps base E w1 w2.drew := h1
theorem set7 {w : World} {b t base B : Nat} {E : List Nat} {w0 : World} {z0 z1 z2 z3 z4 z5 z6 : Value} (x0 x1 x2 x3 x4 x5 x6 : Value) (h : Blk w b t [z0, z1, z2, z3, z4, z5, z6]) (hb : base ≤ b) (ht : t ∉ E) (hB : B ≤ b) (hw : Below B w0 w) :
    Blk (((((((w.setCell ⟨b, 0, none⟩ x0).setCell ⟨b, 1, none⟩ x1).setCell ⟨b, 2, none⟩ x2).setCell ⟨b, 3, none⟩ x3).setCell ⟨b, 4, none⟩ x4).setCell ⟨b, 5, none⟩ x5).setCell ⟨b, 6, none⟩ x6) b t [x0, x1, x2, x3, x4, x5, x6] ∧ Keeps base E w (((((((w.setCell ⟨b, 0, none⟩ x0).setCell ⟨b, 1, none⟩ x1).setCell ⟨b, 2, none⟩ x2).setCell ⟨b, 3, none⟩ x3).setCell ⟨b, 4, none⟩ x4).setCell ⟨b, 5, none⟩ x5).setCell ⟨b, 6, none⟩ x6) ∧ Below B w0 (((((((w.setCell ⟨b, 0, none⟩ x0).setCell ⟨b, 1, none⟩ x1).setCell ⟨b, 2, none⟩ x2).setCell ⟨b, 3, none⟩ x3).setCell ⟨b, 4, none⟩ x4).setCell ⟨b, 5, none⟩ x5).setCell ⟨b, 6, none⟩ x6) := by
  have k0 := Keeps.refl base E w
  have b0 := h
  have v0 := hw
  have k1 := k0.trans (Keeps.set_blk b0 hb ht 0 x0)
  have v1 := v0.setCell (p := ⟨b, 0, none⟩) hB x0
  have b1 := b0.set 0 x0
  have k2 := k1.trans (Keeps.set_blk b1 hb ht 1 x1)
  have v2 := v1.setCell (p := ⟨b, 1, none⟩) hB x1
  have b2 := b1.set 1 x1
  have k3 := k2.trans (Keeps.set_blk b2 hb ht 2 x2)
  have v3 := v2.setCell (p := ⟨b, 2, none⟩) hB x2
  have b3 := b2.set 2 x2
  have k4 := k3.trans (Keeps.set_blk b3 hb ht 3 x3)
  have v4 := v3.setCell (p := ⟨b, 3, none⟩) hB x3
  have b4 := b3.set 3 x3
  have k5 := k4.trans (Keeps.set_blk b4 hb ht 4 x4)
  have v5 := v4.setCell (p := ⟨b, 4, none⟩) hB x4
  have b5 := b4.set 4 x4
  have k6 := k5.trans (Keeps.set_blk b5 hb ht 5 x5)
  have v6 := v5.setCell (p := ⟨b, 5, none⟩) hB x5
  have b6 := b5.set 5 x5
  have k7 := k6.trans (Keeps.set_blk b6 hb ht 6 x6)
  have v7 := v6.setCell (p := ⟨b, 6, none⟩) hB x6
  have b7 := b6.set 6 x6
  exact ⟨b7, k7, v7⟩
theorem set6 {w : World} {b t base B : Nat} {E : List Nat} {w0 : World} {z0 z1 z2 z3 z4 z5 : Value} (x0 x1 x2 x3 x4 x5 : Value) (h : Blk w b t [z0, z1, z2, z3, z4, z5]) (hb : base ≤ b) (ht : t ∉ E) (hB : B ≤ b) (hw : Below B w0 w) :
    Blk ((((((w.setCell ⟨b, 0, none⟩ x0).setCell ⟨b, 1, none⟩ x1).setCell ⟨b, 2, none⟩ x2).setCell ⟨b, 3, none⟩ x3).setCell ⟨b, 4, none⟩ x4).setCell ⟨b, 5, none⟩ x5) b t [x0, x1, x2, x3, x4, x5] ∧ Keeps base E w ((((((w.setCell ⟨b, 0, none⟩ x0).setCell ⟨b, 1, none⟩ x1).setCell ⟨b, 2, none⟩ x2).setCell ⟨b, 3, none⟩ x3).setCell ⟨b, 4, none⟩ x4).setCell ⟨b, 5, none⟩ x5) ∧ Below B w0 ((((((w.setCell ⟨b, 0, none⟩ x0).setCell ⟨b, 1, none⟩ x1).setCell ⟨b, 2, none⟩ x2).setCell ⟨b, 3, none⟩ x3).setCell ⟨b, 4, none⟩ x4).setCell ⟨b, 5, none⟩ x5) := by
  have k0 := Keeps.refl base E w
  have b0 := h
  have v0 := hw
  have k1 := k0.trans (Keeps.set_blk b0 hb ht 0 x0)
  have v1 := v0.setCell (p := ⟨b, 0, none⟩) hB x0
  have b1 := b0.set 0 x0
  have k2 := k1.trans (Keeps.set_blk b1 hb ht 1 x1)
  have v2 := v1.setCell (p := ⟨b, 1, none⟩) hB x1
  have b2 := b1.set 1 x1
  have k3 := k2.trans (Keeps.set_blk b2 hb ht 2 x2)
  have v3 := v2.setCell (p := ⟨b, 2, none⟩) hB x2
  have b3 := b2.set 2 x2
  have k4 := k3.trans (Keeps.set_blk b3 hb ht 3 x3)
  have v4 := v3.setCell (p := ⟨b, 3, none⟩) hB x3
  have b4 := b3.set 3 x3
  have k5 := k4.trans (Keeps.set_blk b4 hb ht 4 x4)
  have v5 := v4.setCell (p := ⟨b, 4, none⟩) hB x4
  have b5 := b4.set 4 x4
  have k6 := k5.trans (Keeps.set_blk b5 hb ht 5 x5)
  have v6 := v5.setCell (p := ⟨b, 5, none⟩) hB x5
  have b6 := b5.set 5 x5
  exact ⟨b6, k6, v6⟩
theorem set5 {w : World} {b t base B : Nat} {E : List Nat} {w0 : World} {z0 z1 z2 z3 z4 : Value} (x0 x1 x2 x3 x4 : Value) (h : Blk w b t [z0, z1, z2, z3, z4]) (hb : base ≤ b) (ht : t ∉ E) (hB : B ≤ b) (hw : Below B w0 w) :
    Blk (((((w.setCell ⟨b, 0, none⟩ x0).setCell ⟨b, 1, none⟩ x1).setCell ⟨b, 2, none⟩ x2).setCell ⟨b, 3, none⟩ x3).setCell ⟨b, 4, none⟩ x4) b t [x0, x1, x2, x3, x4] ∧ Keeps base E w (((((w.setCell ⟨b, 0, none⟩ x0).setCell ⟨b, 1, none⟩ x1).setCell ⟨b, 2, none⟩ x2).setCell ⟨b, 3, none⟩ x3).setCell ⟨b, 4, none⟩ x4) ∧ Below B w0 (((((w.setCell ⟨b, 0, none⟩ x0).setCell ⟨b, 1, none⟩ x1).setCell ⟨b, 2, none⟩ x2).setCell ⟨b, 3, none⟩ x3).setCell ⟨b, 4, none⟩ x4) := by
  have k0 := Keeps.refl base E w
  have b0 := h
  have v0 := hw
  have k1 := k0.trans (Keeps.set_blk b0 hb ht 0 x0)
  have v1 := v0.setCell (p := ⟨b, 0, none⟩) hB x0
  have b1 := b0.set 0 x0
  have k2 := k1.trans (Keeps.set_blk b1 hb ht 1 x1)
  have v2 := v1.setCell (p := ⟨b, 1, none⟩) hB x1
  have b2 := b1.set 1 x1
  have k3 := k2.trans (Keeps.set_blk b2 hb ht 2 x2)
  have v3 := v2.setCell (p := ⟨b, 2, none⟩) hB x2
  have b3 := b2.set 2 x2
  have k4 := k3.trans (Keeps.set_blk b3 hb ht 3 x3)
  have v4 := v3.setCell (p := ⟨b, 3, none⟩) hB x3
  have b4 := b3.set 3 x3
  have k5 := k4.trans (Keeps.set_blk b4 hb ht 4 x4)
  have v5 := v4.setCell (p := ⟨b, 4, none⟩) hB x4
  have b5 := b4.set 4 x4
  exact ⟨b5, k5, v5⟩
theorem set3 {w : World} {b t base B : Nat} {E : List Nat} {w0 : World} {z0 z1 z2 : Value} (x0 x1 x2 : Value) (h : Blk w b t [z0, z1, z2]) (hb : base ≤ b) (ht : t ∉ E) (hB : B ≤ b) (hw : Below B w0 w) :
    Blk (((w.setCell ⟨b, 0, none⟩ x0).setCell ⟨b, 1, none⟩ x1).setCell ⟨b, 2, none⟩ x2) b t [x0, x1, x2] ∧ Keeps base E w (((w.setCell ⟨b, 0, none⟩ x0).setCell ⟨b, 1, none⟩ x1).setCell ⟨b, 2, none⟩ x2) ∧ Below B w0 (((w.setCell ⟨b, 0, none⟩ x0).setCell ⟨b, 1, none⟩ x1).setCell ⟨b, 2, none⟩ x2) := by
  have k0 := Keeps.refl base E w
  have b0 := h
  have v0 := hw
  have k1 := k0.trans (Keeps.set_blk b0 hb ht 0 x0)
  have v1 := v0.setCell (p := ⟨b, 0, none⟩) hB x0
  have b1 := b0.set 0 x0
  have k2 := k1.trans (Keeps.set_blk b1 hb ht 1 x1)
  have v2 := v1.setCell (p := ⟨b, 1, none⟩) hB x1
  have b2 := b1.set 1 x1
  have k3 := k2.trans (Keeps.set_blk b2 hb ht 2 x2)
  have v3 := v2.setCell (p := ⟨b, 2, none⟩) hB x2
  have b3 := b2.set 2 x2
  exact ⟨b3, k3, v3⟩
theorem APr : (Tryz.prog.underlying 35).map (·.isRow) = some true := by kernel_rfl
theorem IPr : (Tryz.prog.info? 35).map (·.size) = some 7 := by kernel_rfl
set_option maxHeartbeats 4000000 in
set_option maxRecDepth 100000 in
theorem ofprop_calls (p : Pr) (cs : List Value) (w : World) (b1 base : Nat) (h : prRd.R w b1 p cs) (hbase : base ≤ w.heap.size) :
    Calls Tryz.prog 11 #[.agg cs.toArray] w fun e w' => ∃ cs', e = .returned (.agg cs'.toArray) ∧ rpRd.R w' base p cs' ∧ Below w.heap.size w w' := by
  obtain ⟨AC, AG, AL, cC, cG, cL, rfl, hr, hl⟩ := h
  have HC := Lib.hid (fun W (hW : Below w.heap.size w W) => bits6_calls AC p.C p.C.length cC 47 b1 base W rfl (hr.C.below hW) hl.c.2 (Nat.le_trans hbase hW.size))
  have HG := Lib.hid (fun W (hW : Below w.heap.size w W) => bitsof_calls AG p.G p.G.length cG 22 47 b1 base W rfl (hr.G.below hW) hl.g.2 (Nat.le_trans hbase hW.size))
  have HL := Lib.hid (fun W (hW : Below w.heap.size w W) => bitsof_calls AL p.L p.L.length cL 22 47 b1 base W rfl (hr.L.below hW) hl.l.2 (Nat.le_trans hbase hW.size))
  have HLN := Lib.hid hl
  have hW0 := Lib.hid (below_new (below_new (Below.refl w.heap.size w) (.cells #[.slice AC p.C.length cC, .slice AG p.G.length cG, .int .i64 p.T, .slice AL p.L.length cL, .int .i64 p.K, .int .i64 p.D, .int .i64 p.S] 25)) (.cells #[.slice none 0 0, .slice none 0 0, .int .i64 0, .slice none 0 0, .int .i64 0, .int .i64 0, .int .i64 0] 35))
  have HB0 := Lib.hid ((Blk.new w #[.slice AC p.C.length cC, .slice AG p.G.length cG, .int .i64 p.T, .slice AL p.L.length cL, .int .i64 p.K, .int .i64 p.D, .int .i64 p.S] 25).alloc (.cells #[.slice none 0 0, .slice none 0 0, .int .i64 0, .slice none 0 0, .int .i64 0, .int .i64 0, .int .i64 0] 35))
  have HZ0 : Hid (Blk ((w.alloc (.cells #[.slice AC p.C.length cC, .slice AG p.G.length cG, .int .i64 p.T, .slice AL p.L.length cL, .int .i64 p.K, .int .i64 p.D, .int .i64 p.S] 25)).alloc (.cells #[.slice none 0 0, .slice none 0 0, .int .i64 0, .slice none 0 0, .int .i64 0, .int .i64 0, .int .i64 0] 35)) (w.heap.size + 1) 35 [.slice none 0 0, .slice none 0 0, .int .i64 0, .slice none 0 0, .int .i64 0, .int .i64 0, .int .i64 0]) := by
    have := Blk.new (w.alloc (.cells #[.slice AC p.C.length cC, .slice AG p.G.length cG, .int .i64 p.T, .slice AL p.L.length cL, .int .i64 p.K, .int .i64 p.D, .int .i64 p.S] 25)) #[.slice none 0 0, .slice none 0 0, .int .i64 0, .slice none 0 0, .int .i64 0, .int .i64 0, .int .i64 0] 35
    simpa [Hid] using this
  clear hr hl
  go_enter Tryz.func11, Tryz.ntmps11
  go_wp2_with fail
  go_region_held3 (fun w' => w'.cell? ⟨w.heap.size, 0, none⟩ = some (.slice AC p.C.length cC) ∧ w'.cell? ⟨w.heap.size, 1, none⟩ = some (.slice AG p.G.length cG) ∧ w'.cell? ⟨w.heap.size, 2, none⟩ = some (.int .i64 p.T) ∧ w'.cell? ⟨w.heap.size, 3, none⟩ = some (.slice AL p.L.length cL) ∧ w'.cell? ⟨w.heap.size, 4, none⟩ = some (.int .i64 p.K) ∧ w'.cell? ⟨w.heap.size, 5, none⟩ = some (.int .i64 p.D) ∧ w'.cell? ⟨w.heap.size, 6, none⟩ = some (.int .i64 p.S))
    (first | (with_reducible exact seven HBL.out) | (with_reducible exact seven HBG.out) | (with_reducible exact seven HBC.out) | (with_reducible exact seven HB0.out.drew) | ((try dsimp only); (repeat' apply And.intro) <;> go_keep))
    (first
      | (go_at_call 42; refine (HC.out _ (by first | exact hW0.out.drew | exact hW0.out | exact HWG.out | exact HWL.out)).mono ?_; rintro e w2 ⟨C1, C2, rfl, hC1, hC2, hW2⟩; have HCC := Lib.hid (And.intro hC1 hC2); have HWC := Lib.hid (below_next hW0.out.drew hW2); have HBC := Lib.hid (Blk.below' HB0.out.drew hW2); have HZC := Lib.hid (Blk.below' HZ0.out.drew hW2); clear hC1 hC2 hW2)
      | (go_at_call 43; have _t := HWG; refine (HL.out _ (by exact HWG.out)).mono ?_; rintro e w4 ⟨L1, L2, rfl, hL1, hL2, hW2⟩; have HLL := Lib.hid (And.intro hL1 hL2); have HWL := Lib.hid (below_next HWG.out hW2); have HBL := Lib.hid (Blk.below' HBG.out hW2); have HZL := Lib.hid (Blk.below' HZG.out hW2); have HGG2 := Lib.hid (And.intro HGG.out.1 (Rd.Row.below HGG.out.2 hW2)); have HCC3 := Lib.hid (And.intro HCC2.out.1 (Rd.Row.below HCC2.out.2 hW2)); obtain ⟨z0, z1, z2, z3, z4, z5, z6⟩ := seven HZL.out; have f0 := HZL.out.frozen 0; have f1 := HZL.out.frozen 1; have f2 := HZL.out.frozen 2; have f3 := HZL.out.frozen 3; have f4 := HZL.out.frozen 4; have f5 := HZL.out.frozen 5; have f6 := HZL.out.frozen 6; clear hL1 hL2 hW2)
      | (go_at_call 43; refine (HG.out _ (by exact HWC.out)).mono ?_; rintro e w3 ⟨G1, G2, rfl, hG1, hG2, hW2⟩; have HGG := Lib.hid (And.intro hG1 hG2); have HWG := Lib.hid (below_next HWC.out hW2); have HBG := Lib.hid (Blk.below' HBC.out hW2); have HZG := Lib.hid (Blk.below' HZC.out hW2); have HCC2 := Lib.hid (And.intro HCC.out.1 (Rd.Row.below HCC.out.2 hW2)); clear hG1 hG2 hW2))
  clear z0 z1 z2 z3 z4 z5 z6 f0 f1 f2 f3 f4 f5 f6
  go_wp2
  obtain ⟨h1, h2, h3⟩ := set7 (base := w.heap.size) (E := [50, 33]) (.slice C1 p.C.length C2) (.slice G1 p.G.length G2) (.int .i64 p.T) (.slice L1 p.L.length L2) (.int .i64 p.K) (.int .i64 p.D) (.int .i64 p.S) HZL.out (by omega) (by decide) (show w.heap.size ≤ w.heap.size + 1 by omega) HWL.out
  have hk : Keeps base [50, 33] w4 _ := ⟨h2.1, fun g hg hc => h2.2 g hg (hc.imp (fun h => by omega) id)⟩
  refine bodyPost_ret (v := .agg #[.slice C1 p.C.length C2, .slice G1 p.G.length G2, .int .i64 p.T, .slice L1 p.L.length L2, .int .i64 p.K, .int .i64 p.D, .int .i64 p.S]) (res_front (by rfl) _ _ (w.heap.size + 1) 35 [.slice C1 p.C.length C2, .slice G1 p.G.length G2, .int .i64 p.T, .slice L1 p.L.length L2, .int .i64 p.K, .int .i64 p.D, .int .i64 p.S] (by rfl) h1 APr IPr) rfl ⟨_, rfl, ⟨C1, G1, L1, C2, G2, L2, rfl, ⟨?_, ?_, ?_⟩, ⟨⟨HCC3.out.1, HLN.out.c.2⟩, ⟨HGG2.out.1, HLN.out.g.2⟩, ⟨HLL.out.1, HLN.out.l.2⟩, HLN.out.t, HLN.out.k, HLN.out.d, HLN.out.s⟩⟩, h3⟩
  · exact HCC3.out.2.keep hk (by simp) (by simp [u64, Rd.scalar])
  · exact bsl_keep HGG2.out.2 rfl hk (by simp) (by simp)
  · exact bsl_keep HLL.out.2 rfl hk (by simp) (by simp)
end Go.Proofs.YtcfejobdgiiihaaGreatDoor

namespace Go.Proofs.YtcfejobdgiiihaaGreatDoor
open Go.RowKit

abbrev z44 : Obj := .cells #[.int .i64 0, .slice none 0 0, .slice none 0 0, .slice none 0 0, .slice none 0 0, .bool false] 44
abbrev zcs (z : Zn) (AC AI AG AR : Option Addr) (cC cI cG cR : Nat) : List Value := [.int .i64 z.N, .slice AC z.C.length cC, .slice AI z.Ids.length cI, .slice AG z.G.length cG, .slice AR z.R.length cR, .bool z.bad]
theorem z44_new (w : World) : Blk (w.alloc z44) w.heap.size 44 [.int .i64 0, .slice none 0 0, .slice none 0 0, .slice none 0 0, .slice none 0 0, .bool false] := Blk.new w _ _
theorem below_new' {w W : World} (h : Below w.heap.size w W) (o : Obj) : Below w.heap.size w (W.alloc o) := h.alloc h.size o
/-- x, with the lists C and R; its Ids and G told apart -/
def OfMid (z : Zn) (w : World) (base : Nat) (cs0 : List Value) (bx : Nat) (vI vG : Value) (wx : World) : Prop :=
  ∃ C1 C2 R1 R2, Blk wx bx 44 [.int .i64 z.N, .slice C1 z.C.length C2, vI, vG, .slice R1 z.R.length R2, .bool z.bad] ∧ z.C.length ≤ C2 ∧ z.R.length ≤ R2 ∧ u64.Row 50 wx base C1 z.C ∧ u64.Row 50 wx base R1 z.R ∧
    Blk wx w.heap.size 42 cs0 ∧ Blk wx (w.heap.size + 1) 44 [.int .i64 0, .slice none 0 0, .slice none 0 0, .slice none 0 0, .slice none 0 0, .bool false] ∧ Below w.heap.size w wx ∧ w.heap.size + 2 ≤ bx
theorem ofmid_mk {z : Zn} {w wx W5 : World} {base bx : Nat} {cs0 : List Value} {C1 R1 : Option Addr} {C2 R2 : Nat} (h1 : Blk W5 bx 44 [.int .i64 z.N, .slice C1 z.C.length C2, .slice none 0 0, .slice none 0 0, .slice R1 z.R.length R2, .bool z.bad])
    (h2 : Keeps base [50, 33, 3] wx W5) (h3 : Below w.heap.size w W5) (hc : z.C.length ≤ C2) (hr : z.R.length ≤ R2) (rc : u64.Row 50 wx base C1 z.C) (rr : u64.Row 50 wx base R1 z.R)
    (hb : Blk W5 w.heap.size 42 cs0) (hz : Blk W5 (w.heap.size + 1) 44 [.int .i64 0, .slice none 0 0, .slice none 0 0, .slice none 0 0, .slice none 0 0, .bool false]) (hbx : w.heap.size + 2 ≤ bx) : OfMid z w base cs0 bx (.slice none 0 0) (.slice none 0 0) W5 :=
  ⟨C1, C2, R1, R2, h1, hc, hr, rc.keep h2 (by simp) (by simp [u64, Rd.scalar]), rr.keep h2 (by simp) (by simp [u64, Rd.scalar]), hb, hz, h3, hbx⟩
/-- six cells of one block are written; other blocks stay -/
theorem far6 {w : World} {b t b' : Nat} {cs : List Value} (h : Blk w b t cs) (hne : b ≠ b') (x0 x1 x2 x3 x4 x5 : Value) :
    Blk ((((((w.setCell ⟨b', 0, none⟩ x0).setCell ⟨b', 1, none⟩ x1).setCell ⟨b', 2, none⟩ x2).setCell ⟨b', 3, none⟩ x3).setCell ⟨b', 4, none⟩ x4).setCell ⟨b', 5, none⟩ x5) b t cs :=
  (((((h.far (p := ⟨b', 0, none⟩) hne _).far (p := ⟨b', 1, none⟩) hne _).far (p := ⟨b', 2, none⟩) hne _).far (p := ⟨b', 3, none⟩) hne _).far (p := ⟨b', 4, none⟩) hne _).far (p := ⟨b', 5, none⟩) hne _
abbrev xcs (z : Zn) (C1 : Option Addr) (C2 : Nat) (vI vG : Value) (R1 : Option Addr) (R2 : Nat) : List Value := [.int .i64 z.N, .slice C1 z.C.length C2, vI, vG, .slice R1 z.R.length R2, .bool z.bad]
theorem ofmid_new {z : Zn} {w wx : World} {base : Nat} {cs0 : List Value} {C1 R1 : Option Addr} {C2 R2 : Nat}
    (h3 : Below w.heap.size w wx) (hcr : z.C.length ≤ C2 ∧ z.R.length ≤ R2 ∧ u64.Row 50 wx base C1 z.C ∧ u64.Row 50 wx base R1 z.R)
    (hb : Blk wx w.heap.size 42 cs0) (hz : Blk wx (w.heap.size + 1) 44 [.int .i64 0, .slice none 0 0, .slice none 0 0, .slice none 0 0, .slice none 0 0, .bool false]) :
    OfMid z w base cs0 wx.heap.size (.slice none 0 0) (.slice none 0 0) (wx.alloc (.cells (xcs z C1 C2 (.slice none 0 0) (.slice none 0 0) R1 R2).toArray 44)) :=
  ⟨C1, C2, R1, R2, Blk.new _ _ _, hcr.1, hcr.2.1, hcr.2.2.1.below (below_new (Below.refl _ _) _), hcr.2.2.2.below (below_new (Below.refl _ _) _), hb.alloc _, hz.alloc _, below_new' h3 _, by have := hz.lt; omega⟩
theorem ofmid_set {z : Zn} {w wx : World} {base bx : Nat} {cs0 : List Value} {C1 R1 : Option Addr} {C2 R2 : Nat}
    (hx : Blk wx bx 44 [.int .i64 0, .slice none 0 0, .slice none 0 0, .slice none 0 0, .slice none 0 0, .bool false])
    (h3 : Below w.heap.size w wx) (hcr : z.C.length ≤ C2 ∧ z.R.length ≤ R2 ∧ u64.Row 50 wx base C1 z.C ∧ u64.Row 50 wx base R1 z.R)
    (hb : Blk wx w.heap.size 42 cs0) (hz : Blk wx (w.heap.size + 1) 44 [.int .i64 0, .slice none 0 0, .slice none 0 0, .slice none 0 0, .slice none 0 0, .bool false]) (hbx : w.heap.size + 2 ≤ bx) (hbase : base ≤ w.heap.size) :
    OfMid z w base cs0 bx (.slice none 0 0) (.slice none 0 0) ((((((wx.setCell ⟨bx, 0, none⟩ (.int .i64 z.N)).setCell ⟨bx, 1, none⟩ (.slice C1 z.C.length C2)).setCell ⟨bx, 2, none⟩ (.slice none 0 0)).setCell ⟨bx, 3, none⟩ (.slice none 0 0)).setCell ⟨bx, 4, none⟩ (.slice R1 z.R.length R2)).setCell ⟨bx, 5, none⟩ (.bool z.bad)) := by
  obtain ⟨k1, k2, k3⟩ := set6 (base := base) (E := [50, 33, 3]) (.int .i64 z.N) (.slice C1 z.C.length C2) (.slice none 0 0) (.slice none 0 0) (.slice R1 z.R.length R2) (.bool z.bad) hx (by omega) (by decide) (show w.heap.size ≤ bx by omega) h3
  exact ofmid_mk k1 k2 k3 hcr.1 hcr.2.1 hcr.2.2.1 hcr.2.2.2 (far6 hb (by omega) _ _ _ _ _ _) (far6 hz (by omega) _ _ _ _ _ _) hbx
/-- integers that were appended onto nothing -/
theorem own_i64 {w : World} {b base t : Nat} {v : Value} {xs : List Int} (h : w.ownsRow b t 1 v (0 + xs.length) ([] ++ iInts xs)) (hb : ∀ x ∈ xs, InInt x) : i64.Own t w b base v xs := by
  rw [Nat.zero_add, List.nil_append] at h
  refine ⟨xs.map fun x => [.int .i64 x], by simp, ?_, ?_⟩
  · have : ∀ ys : List Int, (ys.map fun x => [Value.int .i64 x]).flatten = iInts ys := by
      intro ys
      induction ys with
      | nil => rfl
      | cons x ys ih => rw [List.map_cons, List.flatten_cons, ih]; rfl
    rw [this]; exact h
  · intro i x c h1 h2
    simp only [List.getElem?_map, h1, Option.map_some, Option.some.injEq] at h2
    subst h2
    exact ⟨rfl, hb x (List.mem_of_getElem? h1)⟩
theorem i64_cells {t : Nat} {w : World} {base : Nat} {a : Addr} {l : List Int} (h : i64.Row t w base (some a) l) : ∀ j u, (iInts l)[j]? = some u → w.cell? (a.add j) = some u := by
  intro j u hj
  have hl : j < l.length := by have := (List.getElem?_eq_some_iff.1 hj).1; simpa [iInts] using this
  obtain ⟨a', x, ha, hc, _, hx⟩ := i64at h hl
  cases ha
  rw [hc]
  simp [iInts, hl] at hj
  rw [← hj, ← hx.out]; simp [hl]
theorem i64bd {t : Nat} {w : World} {base : Nat} {A : Option Addr} {xs : List Int} (h : i64.Row t w base A xs) : ∀ d ∈ xs, InInt d := by
  intro d hd
  obtain ⟨i, hi, rfl⟩ := List.getElem_of_mem hd
  obtain ⟨_, cs, _, _, _, hr, _⟩ := h i _ (List.getElem?_eq_getElem hi)
  exact hr.2
section
variable {P : Program} {ops : Array Oper} {o : Oper} {a : Act} {Q : Exit → Act → World → Prop} {K : Act → World → Prop} {EE : Prop}
theorem own_step {α : Type} (d : Rd α) {W : World} (g b0 base : Nat) (hg0 : W.heap.size = g) (hgd : o.guard = none) (s x : Operand) (t e : TypeId) (z : Value) (bytes : Nat)
    (ho : o.op = .call { callee := .builtin .append, args := #[s, x], argTypes := #[t, t] })
    (ht : P.underlying t = some (.slice e)) (hinfo : (P.info? e).map (fun i => (i.zero, i.size, i.bytes)) = some (some z, d.sz, bytes)) (hz : z.cells.size = d.sz) (hs0 : 0 < d.sz) (hb0 : 0 < bytes)
    (v : Value) (xs : List α) (p : α) (cs : List Value) (hs : a.eval s = v) (hx : a.eval x = .slice (some ⟨g, 0, none⟩) 1 1) (hp : d.R W base p cs) (he : e ∉ d.E)
    (HO : d.Own e W b0 base v xs) (hbb : base ≤ b0) (hbase : b0 ≤ g) (hl : (xs.length + 1) * bytes ≤ 140737488355328)
    (h : ∀ v1 w1, d.Own e w1 b0 base v1 (xs ++ [p]) → W.grownBy w1 v.ownBlock → K (a.put o.dst v1) w1) :
    if Region.wanted o (yielded ops a.tmps) = true then Oper.wp P o a (W.alloc (.cells cs.toArray e)) K Q else EE := by
  subst hg0
  have hw : Region.wanted o (yielded ops a.tmps) = true := by simp [Region.wanted, hgd]
  rw [if_pos hw]
  obtain ⟨i0, hi, hzz⟩ := Option.map_eq_some_iff.1 hinfo
  simp only [Prod.mk.injEq] at hzz
  obtain ⟨hz0, hz1, hz2⟩ := hzz
  have hlen : xs.length + 1 ≤ 140737488355328 := Nat.le_trans (Nat.le_mul_of_pos_right _ hb0) hl
  have HO0 := HO
  obtain ⟨css, hcl, hown, hr⟩ := HO
  refine wp_append_own (W.alloc (.cells cs.toArray e)) s x t ho b0 e i0 z d.sz bytes ht hi hz0 hz1 hz2 hz hs0 v xs.length css.flatten hs (hown.alloc _) ⟨W.heap.size, 0, none⟩ 1 1 cs hx (by rw [d.len hp]; simp)
    (by simpa using World.news_of_block (cs := cs.toArray) (t := e) (fr := (0, 0)) (heap_alloc_new W (.cells cs.toArray e))) (d.one hp) (by simp only [maxLen]; omega) hl (by simp; omega) ?_
  intro v1 w1 hown1 hg _
  have hg2 : W.grownBy w1 v.ownBlock := World.grownBy.trans (World.grownBy_alloc W _ _) hg
  have hk : Keeps base d.E W w1 := HO0.keeps hg2 hbb he
  refine h v1 w1 ⟨css ++ [cs], by simp [hcl], ?_, ?_⟩ hg2
  · simpa using hown1
  · intro i y c h1 h2
    rcases Nat.lt_or_ge i xs.length with hlt | hge
    · rw [List.getElem?_append_left hlt] at h1
      rw [List.getElem?_append_left (by omega)] at h2
      exact d.keep (hr i y c h1 h2) hk
    · rw [List.getElem?_append_right hge] at h1
      rw [List.getElem?_append_right (by omega)] at h2
      have : i - xs.length = 0 := by
        have := (List.getElem?_eq_some_iff.1 h1).1
        simp at this; omega
      rw [this] at h1
      rw [hcl, this] at h2
      simp at h1 h2
      subst h1; subst h2
      exact d.keep hp hk
end
theorem AZo : (Tryz.prog.underlying 44).map (·.isRow) = some true := by kernel_rfl
theorem IZo : (Tryz.prog.info? 44).map (·.size) = some 6 := by kernel_rfl
theorem UI1 : Tryz.prog.underlying 40 = some (.slice 3) := by kernel_rfl
theorem II1 : (Tryz.prog.info? 3).map (fun i => (i.zero, i.size, i.bytes)) = some (some (.int .i64 0), 1, 8) := by kernel_rfl
theorem append_nil_nil (ty c : Nat) (w : World) : (Builtin.append_ #[40, 40] ty #[.slice none 0 0, .slice none 0 c]).run Tryz.prog w = .ok (.slice none 0 0) w := by
  obtain ⟨i, hi, _⟩ := info_parts' II1
  simp [Builtin.append_, run_underlying UI1, sizeOf, typeInfo, hi, Builtin.lenOf, Builtin.firstCells]
theorem i64_none {t : Nat} {w : World} {base : Nat} {l : List Int} (h : i64.Row t w base none l) : l.length = 0 := by
  rcases Nat.eq_zero_or_pos l.length with h0 | h0
  · exact h0
  · obtain ⟨a, x, ha, _⟩ := i64at h h0; cases ha
theorem s_of {w W : World} {t : Nat} {x0 x1 x2 x3 x4 x5 u : Value} {q : Addr} (h : Blk W w.heap.size t [x0, x1, x2, x3, x4, x5]) (hW : Below w.heap.size w W) (hq : w.cell? q = some u) :
    W.cell? ⟨w.heap.size, 3, none⟩ = some x3 ∧ W.cell? q = some u := ⟨h.cell 3, cell_kept hW hq⟩
theorem Blk.ne_ownd {α : Type} {d : Rd α} {w : World} {b t t' b0 base : Nat} {cs : List Value} {v : Value} {es : List α} (h : Blk w b t cs) (ho : d.Own t' w b0 base v es) (ht : t ≠ t') : some b ≠ v.ownBlock := by
  intro e
  obtain ⟨_, _, cells, hh⟩ := ho.blk b e.symm
  have := (show w.heap[b]? = _ from h).symm.trans hh
  simp at this
  exact ht this.2
/-- one cell of x is written -/
theorem OfMid.cell {z : Zn} {w wx wy : World} {base bx : Nat} {cs0 : List Value} {vI vG vI' vG' v : Value} {i : Nat} (h : OfMid z w base cs0 bx vI vG wx) (hk : Keeps base [50, 3] wx wy) (hW : Below w.heap.size w wy)
    (hb : Blk wy w.heap.size 42 cs0) (hz : Blk wy (w.heap.size + 1) 44 [.int .i64 0, .slice none 0 0, .slice none 0 0, .slice none 0 0, .slice none 0 0, .bool false])
    (hx : ∀ cs, Blk wx bx 44 cs → Blk wy bx 44 cs) (hbase : base ≤ w.heap.size) (hi : ∀ x0 x1 x4 x5 : Value, [x0, x1, vI, vG, x4, x5].set i v = [x0, x1, vI', vG', x4, x5]) :
    OfMid z w base cs0 bx vI' vG' (wy.setCell ⟨bx, i, none⟩ v) ∧ Keeps base [50, 3] wy (wy.setCell ⟨bx, i, none⟩ v) := by
  obtain ⟨C1, C2, R1, R2, h1, hc, hr, rc, rr, _, _, _, hbx⟩ := h
  have hy := hx _ h1
  have k2 : Keeps base [50, 3] wy (wy.setCell ⟨bx, i, none⟩ v) := Keeps.set_blk hy (by omega) (by decide) i v
  have k := hk.trans k2
  have hs := hy.set i v
  rw [hi] at hs
  exact ⟨⟨C1, C2, R1, R2, hs, hc, hr, rc.keep k (by simp) (by simp [u64, Rd.scalar]), rr.keep k (by simp) (by simp [u64, Rd.scalar]), hb.far (p := ⟨bx, i, none⟩) (show w.heap.size ≠ bx by omega) _, hz.far (p := ⟨bx, i, none⟩) (show w.heap.size + 1 ≠ bx by omega) _, hW.setCell (p := ⟨bx, i, none⟩) (show w.heap.size ≤ bx by omega) _, hbx⟩, k2⟩
end Go.Proofs.YtcfejobdgiiihaaGreatDoor

namespace Go.Proofs.YtcfejobdgiiihaaGreatDoor
open Go.RowKit
attribute [local go_sem ↓] Go.wp_at_zero Go.wp_at_succ

/-- a call of a Go function as one step of a region that draws -/
theorem step_call {P : Program} {ops : Array Oper} {o : Oper} {a : Act} {w : World} {K : Act → World → Prop} {Q : Exit → Act → World → Prop} {EE : Prop} (hg : o.guard = none) (f : FuncId) (args : Array Value) (hrun : (execOp a.eval o).run P w = .ok (.enter f args) w) (R : Value → World → Prop)
    (hc : Calls P f args w fun e w' => ∃ v, e = .returned v ∧ R v w') (h : ∀ v w', R v w' → K (a.put o.dst v) w') : if Region.wanted o (yielded ops a.tmps) = true then Oper.wp P o a w K Q else EE := by
  rw [if_pos (by simp [Region.wanted, hg])]
  unfold Oper.wp
  rw [hrun, Oper.upon_enter]
  refine hc.mono fun e w'' hh => ?_
  obtain ⟨v, rfl, hr⟩ := hh
  exact h v w'' hr
set_option maxHeartbeats 4000000 in
set_option maxRecDepth 100000 in
theorem of10_calls (z : Zn) (cs : List Value) (w : World) (b1 base : Nat) (h : zRd.R w b1 z cs) (hbase : base ≤ w.heap.size) :
    Calls Tryz.prog 14 #[.agg cs.toArray] w fun e w' => ∃ cs', e = .returned (.agg cs'.toArray) ∧ rzRd.R w' base z cs' ∧ Below w.heap.size w w' := by
  obtain ⟨AC, AI, AG, AR, cC, cI, cG, cR, rfl, hr, hl⟩ := h
  have HC := Lib.hid (fun W (hW : Below w.heap.size w W) => bits10_calls AC z.C z.C.length cC 47 b1 base W rfl (hr.C.below hW) hl.c.2 (Nat.le_trans hbase hW.size))
  have HR := Lib.hid (fun W (hW : Below w.heap.size w W) => bits10_calls AR z.R z.R.length cR 47 b1 base W rfl (hr.R.below hW) hl.r.2 (Nat.le_trans hbase hW.size))
  have HLN := Lib.hid hl
  have hRI := Lib.hid (fun W (hW : Below w.heap.size w W) => (show i64.Row 3 W b1 AI z.Ids from hr.I.below hW))
  have HRG := Lib.hid (fun W (hW : Below w.heap.size w W) => (show (bsl 47 f64).Row 22 W b1 AG z.G from hr.G.below hW))
  have hW0 := Lib.hid (below_new (below_new (Below.refl w.heap.size w) (.cells (zcs z AC AI AG AR cC cI cG cR).toArray 42)) z44).drew
  have HB0 := Lib.hid ((Blk.new w (zcs z AC AI AG AR cC cI cG cR).toArray 42).alloc z44).drew
  have HZ0 : Hid (Blk ((w.alloc (.cells (zcs z AC AI AG AR cC cI cG cR).toArray 42)).alloc z44).drew (w.heap.size + 1) 44 [.int .i64 0, .slice none 0 0, .slice none 0 0, .slice none 0 0, .slice none 0 0, .bool false]) := by
    have := (z44_new (w.alloc (.cells (zcs z AC AI AG AR cC cI cG cR).toArray 42))).drew
    simpa [Hid] using this
  clear hr hl
  go_enter Tryz.func14, Tryz.ntmps14
  go_upto_region 1 with fail
  go_cut [3] (fun s3 wx => ∃ bx : Nat, s3 = .pointer (some ⟨bx, 0, none⟩) ∧ Hid (OfMid z w base (zcs z AC AI AG AR cC cI cG cR) bx (.slice none 0 0) (.slice none 0 0) wx))
  case first =>
    go_region_held3 (fun w' => w'.cell? ⟨w.heap.size, 0, none⟩ = some (.int .i64 z.N) ∧ w'.cell? ⟨w.heap.size, 1, none⟩ = some (.slice AC z.C.length cC) ∧ w'.cell? ⟨w.heap.size, 2, none⟩ = some (.slice AI z.Ids.length cI) ∧ w'.cell? ⟨w.heap.size, 3, none⟩ = some (.slice AG z.G.length cG) ∧ w'.cell? ⟨w.heap.size, 4, none⟩ = some (.slice AR z.R.length cR) ∧ w'.cell? ⟨w.heap.size, 5, none⟩ = some (.bool z.bad))
      (first | (with_reducible exact six HBR.out) | (with_reducible exact six (HBR.out.alloc _)) | (with_reducible exact six HBC.out) | (with_reducible exact six (HBC.out.alloc _)) | (with_reducible exact six HB0.out) | (with_reducible exact six (HB0.out.alloc _)) | (with_reducible refine six (far6 (b' := w2.heap.size) HBR.out (Nat.ne_of_lt HBC.out.lt) _ _ _ _ _ _)) | (with_reducible refine six (far6 (b' := w.heap.size + 2) HBR.out (Nat.ne_of_lt (Nat.lt_add_of_pos_right (Nat.zero_lt_two))) _ _ _ _ _ _)) | ((try dsimp only); (repeat' apply And.intro) <;> go_keep))
      (first
        | (go_at_call 15; have _t := HBC; first
            | (refine (HR.out _ HWC.out).mono ?_; rintro e w3 ⟨R1, R2, rfl, hR1, hR2, hW3⟩; have HCR := Lib.hid (And.intro HCC.out.1 (And.intro hR1 (And.intro (Rd.Row.below HCC.out.2 hW3) hR2))); have HWR := Lib.hid (below_next HWC.out hW3); have HBR := Lib.hid (Blk.below' HBC.out hW3); have HZR := Lib.hid (Blk.below' HZC.out hW3); (first | (have HXR := Lib.hid (Blk.below' HXC.out hW3); obtain ⟨z0, z1, z2, z3, z4, z5⟩ := six HXR.out; have f0 := HXR.out.frozen 0; have f1 := HXR.out.frozen 1; have f2 := HXR.out.frozen 2; have f3 := HXR.out.frozen 3; have f4 := HXR.out.frozen 4; have f5 := HXR.out.frozen 5) | skip))
            | (refine (HR.out _ (below_new HWC.out z44)).mono ?_; rintro e w3 ⟨R1, R2, rfl, hR1, hR2, hW3⟩; have HCR := Lib.hid (And.intro HCC.out.1 (And.intro hR1 (And.intro (Rd.Row.below (Rd.Row.below HCC.out.2 (below_new (Below.refl _ _) z44)) hW3) hR2))); have HWR := Lib.hid (below_next (below_new HWC.out z44) hW3); have HBR := Lib.hid (Blk.below' (HBC.out.alloc z44) hW3); have HZR := Lib.hid (Blk.below' (HZC.out.alloc z44) hW3); have HXR := Lib.hid (Blk.below' (z44_new w2) hW3); obtain ⟨z0, z1, z2, z3, z4, z5⟩ := six HXR.out; have f0 := HXR.out.frozen 0; have f1 := HXR.out.frozen 1; have f2 := HXR.out.frozen 2; have f3 := HXR.out.frozen 3; have f4 := HXR.out.frozen 4; have f5 := HXR.out.frozen 5))
        | (go_at_call 15; first
            | (refine (HC.out _ hW0.out).mono ?_; rintro e w2 ⟨C1, C2, rfl, hC1, hC2, hW2⟩; have HCC := Lib.hid (And.intro hC1 hC2); have HWC := Lib.hid (below_next hW0.out hW2); have HBC := Lib.hid (Blk.below' HB0.out hW2); have HZC := Lib.hid (Blk.below' HZ0.out hW2))
            | (refine (HC.out _ (below_new hW0.out z44)).mono ?_; rintro e w2 ⟨C1, C2, rfl, hC1, hC2, hW2⟩; have HCC := Lib.hid (And.intro hC1 hC2); have HWC := Lib.hid (below_next (below_new hW0.out z44) hW2); have HBC := Lib.hid (Blk.below' (HB0.out.alloc z44) hW2); have HZC := Lib.hid (Blk.below' (HZ0.out.alloc z44) hW2); have HXC : Hid (Blk w2 (w.heap.size + 2) 44 [.int .i64 0, .slice none 0 0, .slice none 0 0, .slice none 0 0, .slice none 0 0, .bool false]) := (by have hx := Blk.below' (z44_new _) hW2; simpa [Hid] using hx))))
    all_goals (
      clear HC HR
      go_wp2_with fail
      go_meet
      first
        | (refine ⟨w3.heap.size, rfl, ?_⟩; exact ofmid_new HWR.out HCR.out HBR.out HZR.out)
        | (refine ⟨w2.heap.size, rfl, ?_⟩; exact ofmid_set HXR.out HWR.out HCR.out HBR.out HZR.out (by have := HZC.out.lt; omega) hbase)
        | (refine ⟨w.heap.size + 1 + 1, rfl, ?_⟩; exact ofmid_set HXR.out HWR.out HCR.out HBR.out HZR.out (Nat.le_refl _) hbase))
  case rest =>
    obtain ⟨bx, rfl, hM⟩ := hcut
    obtain ⟨wa, rfl⟩ : ∃ wo : World, wo = wc := ⟨_, rfl⟩
    go_upto_region 2 with fail
    go_cut [] (fun wx => ∃ (IA : Option Addr) (IC : Nat), Hid (OfMid z w base (zcs z AC AI AG AR cC cI cG cR) bx (.slice IA z.Ids.length IC) (.slice none 0 0) wx) ∧ Hid (z.Ids.length ≤ IC) ∧ Hid (i64.Row 3 wx base IA z.Ids))
    case first =>
      obtain ⟨C1, C2, R1, R2, hx, hc, hr, rc, rr, hb, hz, hW, hbx⟩ := hM.out
      have HRI := Lib.hid (hRI.out wa hW)
      have c2 : wa.cell? ⟨w.heap.size, 2, none⟩ = some (.slice AI z.Ids.length cI) := hb.cell 2
      have c2x : wa.cell? ⟨bx, 2, none⟩ = some (.slice none 0 0) := hx.cell 2
      have f2x := hx.frozen 2
      have hX := Lib.hid (And.intro hx (And.intro hb (And.intro hz hW)))
      have hil := HLN.out.i.2
      clear hx hc hr rc rr hb hz hW
      cases AI with
      | none =>
        have h0 := i64_none HRI.out
        have hap := append_nil_nil
        have H0 := Lib.hid h0
        rw [h0] at c2
        have c2' : wa.cell? ⟨w.heap.size, 2, none⟩ = some (.slice none 0 cI) := c2
        clear h0 c2
        go_wp2_with fail
        go_meet
        have hm := OfMid.cell (i := 2) (v := .slice none 0 0) (vI' := .slice none 0 0) (vG' := .slice none 0 0) hM.out (Keeps.refl _ _ _) hX.out.2.2.2 hX.out.2.1 hX.out.2.2.1 (fun _ h => h) hbase (fun _ _ _ _ => rfl)
        refine ⟨none, 0, ?_, ?_, ?_⟩
        · rw [H0.out]; exact hm.1
        · rw [H0.out]; exact Nat.le_refl 0
        · have : z.Ids = [] := List.length_eq_zero_iff.1 H0.out
          rw [this]; exact Rd.Row.nil _ _ _ _ _
      | some ad =>
        have hcells := i64_cells HRI.out
        have hbd := Lib.hid (i64bd HRI.out)
        obtain ⟨ii, hii, hi0, hi2, hi3⟩ := info_parts' II1
        go_wp2_with (at_builtin; refine wpList_append_own _ rfl (.tmp 17) (.tmp 19) 40 (by rfl) wa.heap.size 3 ii (.int .i64 0) 1 8 UI1 hii hi0 hi2 hi3 rfl (by decide) (.slice none 0 0) 0 [] (by rfl) (World.ownsRow_nil _ _ _ _) ad z.Ids.length cI (iInts z.Ids) (by rfl) (by simp [iInts]) hcells (by intro u hu; simp [iInts] at hu; obtain ⟨x, _, rfl⟩ := hu; rfl) (by simp only [maxLen]; omega) (by omega) (Nat.le_refl _) ?_; intro v1 w1 hown1 hg1 _; obtain ⟨IA, IC, rfl, hIC, hIR⟩ := (own_i64 (base := base) hown1 hbd.out).row; have hWn := Lib.hid ((Below.refl wa.heap.size wa).grown hg1 (Nat.le_refl _) (fun k hk => by simp [Value.ownBlock] at hk)); have HIR := Lib.hid (And.intro hIC hIR); have c2y : w1.cell? ⟨bx, 2, none⟩ = some (.slice none 0 0) := (Blk.below' hX.out.1 hWn.out).cell 2; have f2y := (Blk.below' hX.out.1 hWn.out).frozen 2; clear hown1 hg1 hIC hIR hcells hii hi0 hi2 hi3)
        go_meet
        have hm := OfMid.cell (i := 2) (v := .slice IA z.Ids.length IC) (vI' := .slice IA z.Ids.length IC) (vG' := .slice none 0 0) hM.out (Keeps.of_below _ _ hWn.out) (below_next hX.out.2.2.2 hWn.out) (Blk.below' hX.out.2.1 hWn.out) (Blk.below' hX.out.2.2.1 hWn.out) (fun _ h => h.below' hWn.out) hbase (fun _ _ _ _ => rfl)
        exact ⟨IA, IC, hm.1, HIR.out.1, HIR.out.2.keep hm.2 (by simp) (by simp [i64, Rd.scalar])⟩
    case rest =>
      obtain ⟨IA, IC, hM2, hIC, hIR⟩ := hcut
      have c3 : wc.cell? ⟨w.heap.size, 3, none⟩ = some (.slice AG z.G.length cG) := by
        obtain ⟨_, _, _, _, _, _, _, _, _, hb, _⟩ := hM2.out
        exact hb.cell 3
      have hW2 : Hid (Below w.heap.size w wc) := by obtain ⟨_, _, _, _, _, _, _, _, _, _, _, h, _⟩ := hM2.out; exact h
      have HBITS := Lib.hid (fun B (l : List Nat) lc W (hl : f64.Row 47 W b1 B l) (hll : l.length ≤ 17592186044416) (hb : base ≤ W.heap.size) => bits10_calls B l l.length lc 47 b1 base W rfl hl hll hb)
      have hgl := HLN.out.g.2
      clear HC HR hM
      go_wp2
      clear c3
      go_loopw [4] (fun iv wr => ∃ (k : Nat) (vG : Value), k ≤ z.G.length ∧ iv = .int .i64 k ∧ Hid (OfMid z w base (zcs z AC AI AG AR cC cI cG cR) bx (.slice IA z.Ids.length IC) vG wr) ∧ Hid (i64.Row 3 wr base IA z.Ids) ∧ Hid ((bsl 50 u64).Own 33 wr w.heap.size base vG (z.G.take k))) (fun iv _ => z.G.length - (intOf iv).toNat)
      case atStart => exact ⟨0, _, by omega, rfl, hM2.out, hIR.out, by rw [Hid, List.take_zero]; exact Rd.Own.nil _ _ _ _ _⟩
      case round =>
        obtain ⟨k, vG, hk, rfl, hM, hI, hO⟩ := hrel
        have hlt0 : (z.G.take k).length = k := by rw [List.length_take]; omega
        obtain ⟨vA, vc, rfl, hvc0, hvrow⟩ := hO.out.row
        rw [hlt0] at hO hM
        obtain ⟨C1, C2, R1, R2, hx, hc, hr, rc, rr, hb, hz, hW, hbx⟩ := hM.out
        have hX := Lib.hid (And.intro hx (And.intro hb (And.intro hz (And.intro hW (And.intro hc (And.intro hr (And.intro rc rr)))))))
        have c3 : wr.cell? ⟨w.heap.size, 3, none⟩ = some (.slice AG z.G.length cG) := hb.cell 3
        have c3x : wr.cell? ⟨bx, 3, none⟩ = some (.slice vA k vc) := hx.cell 3
        have hbxl := hx.lt
        have hwsz := hW.size
        clear hx hc hr rc rr hb hz
        by_cases hlt : k < z.G.length
        · obtain ⟨b, B, l, lc, rfl, hq, hge, hlc, hlC, hrow⟩ := bsl_at (HRG.out w (Below.refl _ _)) hlt
          have HB := Lib.hid (HBITS.out B l lc wr.drew (show f64.Row 47 wr.drew b1 B l from (show f64.Row 47 w b1 B l from hrow).below hW.drew) hlC (show base ≤ wr.drew.heap.size from Nat.le_trans hbase hwsz))
          have HBS : Hid (Calls Tryz.prog 15 #[.slice B l.length lc] wr.drew fun e w' => ∃ v, e = .returned v ∧ ∃ B2 cc2, v = .slice B2 l.length cc2 ∧ l.length ≤ cc2 ∧ u64.Row 50 w' base B2 l ∧ Below wr.drew.heap.size wr.drew w') := HB.out.mono (by rintro e w' ⟨B2, cc2, rfl, h⟩; exact ⟨_, rfl, B2, cc2, rfl, h⟩)
          have hi1 : (k : Int) < (z.G.length : Int) := by omega
          have hi2 : (0 : Int) ≤ (k : Int) := by omega
          have hlen : (((z.G.take k).length) + 1) * 24 ≤ 140737488355328 := by rw [hlt0]; omega
          have HT := Lib.hid (take_snocD (d := []) hlt hge.out)
          have HQ := Lib.hid hq
          have HW := Lib.hid hW
          have HBOX := Lib.hid hX.out.2.1.drew
          have HWD := Lib.hid hW.drew
          have hqr : wr.cell? (b.add k) = some (.slice B l.length lc) := cell_kept HW.out HQ.out
          clear hlt0 hvrow hvc0 hrow hq hW
          go_wp2_with fail
          go_region_law (first
              | (refine step_call (by rfl) 15 #[.slice B l.length lc] (by first | rfl | (go_simp; done) | (simp [execOp, go_sem]; done)) _ HBS.out ?_; rintro v w2 ⟨B2, cc2, rfl, hcc2, hr2, hWn⟩; have HR2 : Hid ((bsl 50 u64).R w2 base l [.slice B2 l.length cc2]) := ⟨⟨B2, cc2, rfl, hcc2, hr2⟩, hlC⟩; have HWn := Lib.hid ((Below.refl wr.heap.size wr).drew.trans hWn); have HW2 := Lib.hid (below_next HW.out HWn.out); have HBOX2 := Lib.hid (Blk.below' hX.out.2.1 HWn.out); have HX2 := Lib.hid (Blk.below' hX.out.1 HWn.out); have HO2 := Lib.hid (hO.out.below HWn.out); have c3y : w2.cell? ⟨bx, 3, none⟩ = some (.slice vA k vc) := HX2.out.cell 3; have c3w : (w2.alloc (.cells #[.slice B2 l.length cc2] 33)).cell? ⟨bx, 3, none⟩ = some (.slice vA k vc) := (HX2.out.alloc _).cell 3; have hw2s := HW2.out.size; clear hcc2 hr2 hWn)
              | (refine own_step (bsl 50 u64) w2.heap.size w.heap.size base (by rfl) (by rfl) _ _ 30 33 (.slice none 0 0) 24 (by rfl) UU2 IU2 rfl (by decide) (by decide) _ (z.G.take k) l [.slice B2 l.length cc2] (by rfl) (by rfl) HR2.out (by decide) HO2.out hbase hw2s hlen ?_; intro v1 w3 hO1 hg1; obtain ⟨vA1, vc1, rfl, hvc1, _⟩ := hO1.row; have HO3 := Lib.hid hO1; have HG3 := Lib.hid hg1; have HW3 := Lib.hid (Rd.Own.below_of HO2.out HW2.out hg1); have HBOX3 := Lib.hid (Blk.grown HBOX2.out hg1 (HBOX2.out.ne_ownd HO2.out (by decide))); have HX3 := Lib.hid (Blk.grown HX2.out hg1 (HX2.out.ne_ownd HO2.out (by decide))); have c3z : w3.cell? ⟨bx, 3, none⟩ = some (.slice vA k vc) := HX3.out.cell 3; have f3z := HX3.out.frozen 3; have HBOX4 := Lib.hid (HBOX3.out.far (p := ⟨bx, 3, none⟩) (show w.heap.size ≠ bx by omega) (.slice vA1 (k + 1) vc1)); have HW4 := Lib.hid (HW3.out.setCell (p := ⟨bx, 3, none⟩) (show w.heap.size ≤ bx by omega) (.slice vA1 (k + 1) vc1)); clear hO1 hg1 hvc1))
          all_goals (
            go_wp2
            go_roundw
            case rel =>
              have hl1 : (z.G.take k ++ [l]).length = k + 1 := by rw [List.length_append, List.length_take]; simp; omega
              have hO4 := HO3.out
              rw [hl1, ← HT.out] at hO4
              have k1 : Keeps base [50, 3] wr w2 := Keeps.of_below _ _ HWn.out
              have k2 : Keeps base [50, 3] w2 w3 := HO2.out.keeps HG3.out hbase (by decide)
              have hm := OfMid.cell (i := 3) (v := .slice vA1 (k + 1) vc1) (vI' := .slice IA z.Ids.length IC) (vG' := .slice vA1 (k + 1) vc1) hM.out (k1.trans k2) HW3.out HBOX3.out
                (Blk.grown (Blk.below' hX.out.2.2.1 HWn.out) HG3.out ((Blk.below' hX.out.2.2.1 HWn.out).ne_ownd HO2.out (by decide))) (fun cs h => Blk.grown (Blk.below' h HWn.out) HG3.out ((Blk.below' h HWn.out).ne_ownd HO2.out (by decide))) hbase (fun _ _ _ _ => rfl)
              refine ⟨k + 1, _, by omega, by go_num, hm.1, hI.out.keep ((k1.trans k2).trans hm.2) (by simp) (by simp [i64, Rd.scalar]), ?_⟩
              obtain ⟨css, e1, e2, e3⟩ := hO4
              refine ⟨css, e1, ?_, ?_⟩
              · exact ownsRow_keep (E := [33]) e2 (base := w.heap.size) (Keeps.set_blk HX3.out (by omega) (by decide) 3 _) (by simp)
              · exact fun i x c h1 h2 => (bsl 50 u64).keep (e3 i x c h1 h2) (Keeps.set_blk HX3.out (by omega) (by decide) 3 _)
            case measure => simp [intOf]; omega)
        · obtain rfl : k = z.G.length := by omega
          rw [List.take_length] at hvrow hvc0
          have HV := Lib.hid (And.intro hvc0 hvrow)
          have hres := Lib.hid hX.out.2.2.1
          obtain ⟨x0, x1, x2, x3, x4, x5⟩ := six hX.out.1
          obtain ⟨z0, z1, z2, z3, z4, z5⟩ := six hX.out.2.2.1
          have f0 := hX.out.2.2.1.frozen 0; have f1 := hX.out.2.2.1.frozen 1; have f2 := hX.out.2.2.1.frozen 2; have f3 := hX.out.2.2.1.frozen 3; have f4 := hX.out.2.2.1.frozen 4; have f5 := hX.out.2.2.1.frozen 5
          clear hlt0 hvrow hvc0
          go_wp2
          clear x0 x1 x2 x3 x4 x5 z0 z1 z2 z3 z4 z5 f0 f1 f2 f3 f4 f5
          obtain ⟨h1, h2, h3⟩ := set6 (base := w.heap.size) (E := [50, 33, 3]) (.int .i64 z.N) (.slice C1 z.C.length C2) (.slice IA z.Ids.length IC) (.slice vA z.G.length vc) (.slice R1 z.R.length R2) (.bool z.bad) hres.out (by omega) (by decide) (show w.heap.size ≤ w.heap.size + 1 by omega) hX.out.2.2.2.1
          have hk : Keeps base [50, 33, 3] wr _ := ⟨h2.1, fun g hg hc => h2.2 g hg (hc.imp (fun h => by omega) id)⟩
          refine bodyPost_ret (v := .agg #[.int .i64 z.N, .slice C1 z.C.length C2, .slice IA z.Ids.length IC, .slice vA z.G.length vc, .slice R1 z.R.length R2, .bool z.bad]) (res_front (by rfl) _ _ (w.heap.size + 1) 44 [.int .i64 z.N, .slice C1 z.C.length C2, .slice IA z.Ids.length IC, .slice vA z.G.length vc, .slice R1 z.R.length R2, .bool z.bad] (by rfl) h1 AZo IZo) rfl ⟨_, rfl, ⟨C1, IA, vA, R1, C2, IC, vc, R2, rfl, ⟨?_, ?_, ?_, ?_⟩, ⟨HLN.out.n, ⟨hX.out.2.2.2.2.1, HLN.out.c.2⟩, ⟨hIC.out, HLN.out.i.2⟩, ⟨HV.out.1, HLN.out.g.2⟩, ⟨hX.out.2.2.2.2.2.1, HLN.out.r.2⟩⟩⟩, h3⟩
          · exact hX.out.2.2.2.2.2.2.1.keep hk (by simp) (by simp [u64, Rd.scalar])
          · exact hI.out.keep hk (by simp) (by simp [i64, Rd.scalar])
          · exact bsl_keep HV.out.2 rfl hk (by simp) (by simp)
          · exact hX.out.2.2.2.2.2.2.2.keep hk (by simp) (by simp [u64, Rd.scalar])
end Go.Proofs.YtcfejobdgiiihaaGreatDoor
