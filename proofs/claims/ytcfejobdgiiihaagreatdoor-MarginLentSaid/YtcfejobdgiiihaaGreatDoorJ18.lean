/- Walks and plain laws of this seat's functions, part 18: C1 C2 C3 C4 C5 C6. -/
import Derived.Test.YtcfejobdgiiihaaGreatDoorJ17
set_option linter.unusedVariables false
set_option linter.unusedSimpArgs false
namespace Go.Proofs.YtcfejobdgiiihaaGreatDoor
open Go.RowKit

theorem take_eq_step {α : Type} {xs ys : List α} {k : Nat} {d x : α} (h : xs.take k = ys.take k) (hx : k < xs.length) (hy : k < ys.length) (ex : xs.getD k d = x) (ey : ys.getD k d = x) : xs.take (k + 1) = ys.take (k + 1) := by
  rw [take_snocD hx ex, take_snocD hy ey, h]
theorem ne_of_getD {α : Type} [DecidableEq α] {xs ys : List α} {k : Nat} {d x y : α} (ex : xs.getD k d = x) (ey : ys.getD k d = y) (h : x ≠ y) : decide (xs = ys) = false := by
  refine decide_eq_false ?_
  rintro rfl
  exact h (ex.symm.trans ey)
theorem eq_of_takes {α : Type} [DecidableEq α] {xs ys : List α} (h : xs.take xs.length = ys.take xs.length) (hl : ys.length = xs.length) : decide (xs = ys) = true := by
  refine decide_eq_true ?_
  rw [List.take_length, ← hl, List.take_length] at h
  exact h

set_option maxHeartbeats 2000000 in
set_option maxRecDepth 100000 in
theorem sameints_calls (A B : Option Addr) (xs ys : List Int) (n m cx cy t1 t2 b1 b2 : Nat) (w : World) (hn : xs.length = n) (hm : ys.length = m) (hA : i64.Row t1 w b1 A xs) (hB : i64.Row t2 w b2 B ys) (hx : n ≤ 17592186044416) (hy : m ≤ 17592186044416) :
    Calls Tryz.prog 19 #[.slice A n cx, .slice B m cy] w fun e w' => e = .returned (.bool (decide (xs = ys))) ∧ ∃ q, w' = w.drewN q := by
  subst hn hm
  by_cases h : xs.length = ys.length
  · have HE := Lib.hid h
    have hg : ((xs.length : Int) != (ys.length : Int)) = false := by rw [h]; simp
    clear h
    go_enter Tryz.func19, Tryz.ntmps19
    go_wp2
    go_loopw [5] (fun i wr => ∃ (k : Nat), i = .int .i64 k ∧ k ≤ xs.length ∧ Hid (xs.take k = ys.take k) ∧ Hid (∃ q, wr = w.drewN q)) (fun i _ => xs.length - (intOf i).toNat)
    case atStart => exact ⟨0, rfl, Nat.zero_le _, rfl, 0, rfl⟩
    case round =>
      obtain ⟨k, rfl, hk, hI, hQ⟩ := hrel
      obtain ⟨q, rfl⟩ := hQ.out
      by_cases hlt : k < xs.length
      · have hD : Below w.heap.size w (w.drewN q) := below_drewN (Below.refl _ _) q
        obtain ⟨a, x, rfl, hca, hxb, hxe⟩ := i64at hA hlt
        obtain ⟨b, y, rfl, hcb, hyb, hye⟩ := i64at hB (i := k) (by have := HE.out; omega)
        have hlk : (k : Int) < (ys.length : Int) := by have := HE.out; omega
        have hlx : (k : Int) < (xs.length : Int) := by omega
        have hl0 : (0 : Int) ≤ (k : Int) := by omega
        by_cases hxy : x = y
        · subst hxy
          go_wp2
          go_quiet (fail)
          go_wp2
          go_roundw
          case rel => exact ⟨k + 1, by go_num, by omega, take_eq_step hI.out hlt (by have := HE.out; omega) hxe.out hye.out, ⟨_, rfl⟩⟩
          case measure => simp [intOf]; omega
        · have hne := Lib.hid hxy
          have hneb : (x != y) = true := by simpa using hxy
          clear hxy
          go_wp2
          go_quiet (fail)
          go_wp2
          go_ret
          exact ⟨by rw [ne_of_getD hxe.out hye.out hne.out]; rfl, _, drewN_drewN _ _ _⟩
      · obtain rfl : k = xs.length := by omega
        go_wp2
        go_ret
        exact ⟨by rw [eq_of_takes hI.out HE.out.symm]; rfl, q, rfl⟩
  · have hg : ((xs.length : Int) != (ys.length : Int)) = true := by simp; omega
    have HN : Hid (decide (xs = ys) = false) := decide_eq_false (by rintro rfl; exact h rfl)
    go_enter Tryz.func19, Tryz.ntmps19
    go_wp2
    go_ret
    exact ⟨by rw [HN.out]; rfl, 0, rfl⟩

set_option maxHeartbeats 2000000 in
set_option maxRecDepth 100000 in
theorem samelist_calls (A B : Option Addr) (xs ys : List Nat) (n m cx cy t1 t2 b1 b2 : Nat) (w : World) (hn : xs.length = n) (hm : ys.length = m) (hA : u64.Row t1 w b1 A xs) (hB : u64.Row t2 w b2 B ys) (hx : n ≤ 17592186044416) (hy : m ≤ 17592186044416) :
    Calls Tryz.prog 44 #[.slice A n cx, .slice B m cy] w fun e w' => e = .returned (.bool (decide (xs = ys))) ∧ ∃ q, w' = w.drewN q := by
  subst hn hm
  by_cases h : xs.length = ys.length
  · have HE := Lib.hid h
    have hg : ((xs.length : Int) != (ys.length : Int)) = false := by rw [h]; simp
    clear h
    go_enter Tryz.func44, Tryz.ntmps44
    go_wp2
    go_loopw [5] (fun i wr => ∃ (k : Nat), i = .int .i64 k ∧ k ≤ xs.length ∧ Hid (xs.take k = ys.take k) ∧ Hid (∃ q, wr = w.drewN q)) (fun i _ => xs.length - (intOf i).toNat)
    case atStart => exact ⟨0, rfl, Nat.zero_le _, rfl, 0, rfl⟩
    case round =>
      obtain ⟨k, rfl, hk, hI, hQ⟩ := hrel
      obtain ⟨q, rfl⟩ := hQ.out
      by_cases hlt : k < xs.length
      · have hD : Below w.heap.size w (w.drewN q) := below_drewN (Below.refl _ _) q
        obtain ⟨a, x, rfl, hca, hxb, hxe⟩ := u64at hA hlt
        obtain ⟨b, y, rfl, hcb, hyb, hye⟩ := u64at hB (i := k) (by have := HE.out; omega)
        have hlk : (k : Int) < (ys.length : Int) := by have := HE.out; omega
        have hlx : (k : Int) < (xs.length : Int) := by omega
        have hl0 : (0 : Int) ≤ (k : Int) := by omega
        by_cases hxy : x = y
        · subst hxy
          go_wp2
          go_quiet (fail)
          go_wp2
          go_roundw
          case rel => exact ⟨k + 1, by go_num, by omega, take_eq_step hI.out hlt (by have := HE.out; omega) hxe.out hye.out, ⟨_, rfl⟩⟩
          case measure => simp [intOf]; omega
        · have hne := Lib.hid hxy
          have hneb : ((x : Int) != (y : Int)) = true := by simp; omega
          clear hxy
          go_wp2
          go_quiet (fail)
          go_wp2
          go_ret
          exact ⟨by rw [ne_of_getD hxe.out hye.out hne.out]; rfl, _, drewN_drewN _ _ _⟩
      · obtain rfl : k = xs.length := by omega
        go_wp2
        go_ret
        exact ⟨by rw [eq_of_takes hI.out HE.out.symm]; rfl, q, rfl⟩
  · have hg : ((xs.length : Int) != (ys.length : Int)) = true := by simp; omega
    have HN : Hid (decide (xs = ys) = false) := decide_eq_false (by rintro rfl; exact h rfl)
    go_enter Tryz.func44, Tryz.ntmps44
    go_wp2
    go_ret
    exact ⟨by rw [HN.out]; rfl, 0, rfl⟩

set_option maxHeartbeats 2000000 in
set_option maxRecDepth 100000 in
theorem samelists_calls (A B : Option Addr) (xs ys : List (List Nat)) (n m cx cy t1 t2 s1 s2 b1 b2 : Nat) (w : World) (hn : xs.length = n) (hm : ys.length = m) (hA : (bsl s1 u64).Row t1 w b1 A xs) (hB : (bsl s2 u64).Row t2 w b2 B ys) (hx : n ≤ 17592186044416) (hy : m ≤ 17592186044416) :
    Calls Tryz.prog 12 #[.slice A n cx, .slice B m cy] w fun e w' => e = .returned (.bool (decide (xs = ys))) ∧ ∃ q, w' = w.drewN q := by
  subst hn hm
  by_cases h : xs.length = ys.length
  · have HE := Lib.hid h
    have hg : ((xs.length : Int) != (ys.length : Int)) = false := by rw [h]; simp
    clear h
    go_enter Tryz.func12, Tryz.ntmps12
    go_wp2
    go_loopw [5] (fun i wr => ∃ (k : Nat), i = .int .i64 k ∧ k ≤ xs.length ∧ Hid (xs.take k = ys.take k) ∧ Hid (∃ q, wr = w.drewN q)) (fun i _ => xs.length - (intOf i).toNat)
    case atStart => exact ⟨0, rfl, Nat.zero_le _, rfl, 0, rfl⟩
    case round =>
      obtain ⟨k, rfl, hk, hI, hQ⟩ := hrel
      obtain ⟨q, rfl⟩ := hQ.out
      by_cases hlt : k < xs.length
      · obtain ⟨a, A2, x, c1, rfl, hca, hxe, hlc, hlC, hra⟩ := bsl_at hA hlt
        obtain ⟨b, B2, y, c2, rfl, hcb, hye, hld, hlD, hrb⟩ := bsl_at hB (i := k) (by have := HE.out; omega)
        have hlk : (k : Int) < (ys.length : Int) := by have := HE.out; omega
        have hlx : (k : Int) < (xs.length : Int) := by omega
        have hl0 : (0 : Int) ≤ (k : Int) := by omega
        have HS := Lib.hid (fun W (hW : Below w.heap.size w W) => samelist_calls A2 B2 x y x.length y.length c1 c2 s1 s2 b1 b2 W rfl rfl (hra.below hW) (hrb.below hW) hlC hlD)
        obtain ⟨r, hr⟩ : ∃ r, decide (x = y) = r := ⟨_, rfl⟩
        rw [hr] at HS
        have HR := Lib.hid hr
        clear hra hrb hlc hlC hld hlD hr
        cases r
        · go_wp2
          go_quiet ((go_at_call 44; first | exact quiet_sum (HS.out _ (below_drewN (Below.refl _ _) _)) | exact Calls.quiet_of (HS.out _ (below_drewN (Below.refl _ _) _))))
          go_wp2
          go_ret
          exact ⟨by rw [ne_of_getD hxe.out hye.out (of_decide_eq_false HR.out)]; rfl, _, drewN_drewN _ _ _⟩
        · go_wp2
          go_quiet ((go_at_call 44; first | exact quiet_sum (HS.out _ (below_drewN (Below.refl _ _) _)) | exact Calls.quiet_of (HS.out _ (below_drewN (Below.refl _ _) _))))
          go_wp2
          go_roundw
          case rel => exact ⟨k + 1, by go_num, by omega, take_eq_step hI.out hlt (by have := HE.out; omega) hxe.out (hye.out.trans (of_decide_eq_true HR.out).symm), ⟨_, rfl⟩⟩
          case measure => simp [intOf]; omega
      · obtain rfl : k = xs.length := by omega
        go_wp2
        go_ret
        exact ⟨by rw [eq_of_takes hI.out HE.out.symm]; rfl, q, rfl⟩
  · have hg : ((xs.length : Int) != (ys.length : Int)) = true := by simp; omega
    have HN : Hid (decide (xs = ys) = false) := decide_eq_false (by rintro rfl; exact h rfl)
    go_enter Tryz.func12, Tryz.ntmps12
    go_wp2
    go_ret
    exact ⟨by rw [HN.out]; rfl, 0, rfl⟩

set_option maxHeartbeats 2000000 in
set_option maxRecDepth 100000 in
theorem number2_calls (u : Nat) (w : World) (hu : u < 18446744073709551616) :
    Calls Tryz.prog 77 #[.int .u64 u] w fun e w' => e = .returned (.bool (fin u)) ∧ w' = w := by
  have hb1 := bits_fexp hu
  have HF : Hid (fin u = decide (fexp u ≠ 2047)) := by simp [Hid, fin]
  obtain ⟨x, hx⟩ : ∃ x, fexp u = x := ⟨_, rfl⟩
  rw [hx] at hb1 HF
  by_cases h : x = 2047
  · subst h
    go_enter Tryz.func77, Tryz.ntmps77
    go_wp2
    go_ret
    exact ⟨by rw [HF.out]; rfl, rfl⟩
  · have hne : ((x : Int) != 2047) = true := by simp; omega
    have HN := Lib.hid h
    clear h hx
    go_enter Tryz.func77, Tryz.ntmps77
    go_wp2
    go_ret
    exact ⟨by rw [HF.out, decide_eq_true HN.out]; simp, rfl⟩
set_option maxHeartbeats 2000000 in
set_option maxRecDepth 100000 in
theorem numbers6_calls (A : Option Addr) (l : List Nat) (n c t b1 : Nat) (w : World) (hn : l.length = n) (hA : u64.Row t w b1 A l) (hl : n ≤ 17592186044416) :
    Calls Tryz.prog 40 #[.slice A n c] w fun e w' => e = .returned (.bool (l.all fin)) ∧ w' = w := by
  subst hn
  have HU := Lib.hid (fun u (hu : u < 18446744073709551616) => number2_calls u w hu)
  go_enter Tryz.func40, Tryz.ntmps40
  go_wp2
  go_loop [3] (fun i => ∃ k : Nat, k ≤ l.length ∧ i = .int .i64 k ∧ Hid ((l.take k).all fin = true)) (fun i => l.length - (intOf i).toNat)
  case atStart => exact ⟨0, by omega, rfl, rfl⟩
  case round =>
    obtain ⟨k, hk, rfl, hall⟩ := hrel
    by_cases hlt : k < l.length
    · obtain ⟨a, x, rfl, hcx, hxb, hxe⟩ := u64at hA hlt
      have HX := HU.out x hxb
      have hi1 : (k : Int) < (l.length : Int) := by omega
      obtain ⟨r, hr⟩ : ∃ r, fin x = r := ⟨_, rfl⟩
      rw [hr] at HX
      replace HX := Lib.hid HX
      have HR := Lib.hid hr
      clear hr
      cases r
      · go_wp2_with fail
        refine HX.out.mono ?_
        rintro e w' ⟨rfl, rfl⟩
        go_wp2
        go_ret
        exact ⟨by rw [all_take_false hlt hxe.out HR.out]; rfl, rfl⟩
      · go_wp2_with fail
        refine HX.out.mono ?_
        rintro e w' ⟨rfl, rfl⟩
        go_wp2
        go_round
        case rel => exact ⟨k + 1, by omega, by go_num, by rw [Hid, all_take_step hlt hxe.out, hall.out, HR.out]; rfl⟩
        case measure => simp [intOf]; omega
    · obtain rfl : k = l.length := by omega
      have hall2 : Hid (l.all fin = true) := by have := hall.out; rw [List.take_length] at this; exact this
      go_wp2
      go_ret
      exact ⟨by rw [hall2.out]; rfl, rfl⟩
end Go.Proofs.YtcfejobdgiiihaaGreatDoor

namespace Go.Proofs.YtcfejobdgiiihaaGreatDoor
open Go.RowKit

theorem makeU {n : Nat} (W : World) (h : n ≤ 4398046511104) : (Instr.makeSlice 33 (.int .i64 (n : Int)) (.int .i64 (n : Int))).run Tryz.prog W = .ok (.slice (some ⟨W.heap.size, 0, none⟩) n n) (W.alloc (.cells (madeCells #[.int .u64 0] n) 50)) :=
  run_make_row' (P := Tryz.prog) 33 50 (.int .u64 0) 8 (by kernel_rfl) (by kernel_rfl) rfl .i64 .i64 n (by omega) (by omega) W
theorem u64_cells {t : Nat} {w : World} {base : Nat} {a : Addr} {l : List Nat} (h : u64.Row t w base (some a) l) : ∀ j u, (i64s l)[j]? = some u → w.cell? (a.add j) = some u := by
  intro j u hj
  have hl : j < l.length := by have := (List.getElem?_eq_some_iff.1 hj).1; simpa [i64s] using this
  obtain ⟨a', x, ha, hc, _, hx⟩ := u64at h hl
  cases ha
  rw [hc]
  simp [i64s, hl] at hj
  rw [← hj, ← hx.out]; simp [hl]
theorem own_u64 {w : World} {b base t : Nat} {v : Value} {xs : List Nat} (h : w.ownsRow b t 1 v (0 + xs.length) ([] ++ i64s xs)) (hb : ∀ x ∈ xs, x < B64) : u64.Own t w b base v xs := by
  rw [Nat.zero_add, List.nil_append] at h
  refine ⟨xs.map fun x => [.int .u64 (x : Nat)], by simp, ?_, ?_⟩
  · have : ∀ ys : List Nat, (ys.map fun x => [Value.int .u64 (x : Nat)]).flatten = i64s ys := by
      intro ys
      induction ys with
      | nil => rfl
      | cons x ys ih => rw [List.map_cons, List.flatten_cons, ih]; rfl
    rw [this]; exact h
  · intro i x c h1 h2
    simp only [List.getElem?_map, h1, Option.map_some, Option.some.injEq] at h2
    subst h2
    exact ⟨rfl, hb x (List.mem_of_getElem? h1)⟩
set_option maxHeartbeats 4000000 in
set_option maxRecDepth 100000 in
theorem rrow_calls (m t j base : Nat) (w : World) (hm : m ≤ 256) (ht : t < m) (hj : j < m) :
    Calls Tryz.prog 41 #[.int .i64 m, .int .i64 t, .int .i64 j] w fun e w' => ∃ B cc, e = .returned (.slice B (rowS m t j).length cc) ∧ (rowS m t j).length ≤ cc ∧ u64.Row 50 w' base B (rowS m t j) ∧ Below w.heap.size w w' := by
  obtain ⟨mm, hmm⟩ : ∃ mm, m + 1 = mm := ⟨_, rfl⟩
  have n1 : (m : Int) + 1 = (mm : Int) := by omega
  have hm3 : m < mm := by omega
  have hm4 : mm ≤ 257 := by omega
  obtain ⟨W1, hW1⟩ : ∃ W1, W1 = w.alloc (.cells (madeCells #[.int .u64 0] mm) 50) := ⟨_, rfl⟩
  have hm1' : (Instr.makeSlice 33 (.int .i64 (mm : Int)) (.int .i64 (mm : Int))).run Tryz.prog w = .ok (.slice (some ⟨w.heap.size, 0, none⟩) mm mm) W1 := by rw [hW1]; exact makeU w (by omega)
  have HZ : Hid (Blk W1 w.heap.size 50 (i64s (List.replicate mm 0))) := by
    have := Blk.new w (madeCells #[.int .u64 0] mm) 50
    rw [made64, ← hW1] at this
    exact this
  have HW1 : Hid (Below w.heap.size w W1) := by rw [hW1]; exact below_new (Below.refl _ _) _
  have hb0 : ∀ d ∈ List.replicate mm 0, d < B64 := by intro d hd; simp at hd; rw [hd.2]; decide
  obtain ⟨x1, z1, z2, _⟩ := HZ.out.at64 (i := t) (by simp; omega) hb0
  have hs1 := HZ.out.set64 t 4607182418800017408 4607182418800017408 rfl
  obtain ⟨x3, z3, z4, _⟩ := hs1.at64 (i := j) (by simp; omega) (mem_set hb0 (by decide))
  have hi1 : (t : Int) < (mm : Int) := by omega
  have hi2 : (j : Int) < (mm : Int) := by omega
  have HL : Hid ((rowS m t j).length = mm) := by rw [Hid, rowS_len, hmm]
  have HR : Hid (((List.replicate mm 0).set t 4607182418800017408).set j 13830554455654793216 = rowS m t j) := by rw [Hid, rowS, hmm]
  rw [HL.out]
  clear hmm hW1 hb0 hs1
  go_enter Tryz.func41, Tryz.ntmps41
  go_wp2
  go_ret
  have hb := (HZ.out.set64 t 4607182418800017408 4607182418800017408 rfl).set64 j 13830554455654793216 13830554455654793216 rfl
  rw [HR.out] at hb
  exact ⟨_, _, rfl, Nat.le_refl _, u64all hb (rowS_bd m t j), (HW1.out.setCell (p := ⟨w.heap.size, t, none⟩) (Nat.le_refl _) _).setCell (p := ⟨w.heap.size, j, none⟩) (Nat.le_refl _) _⟩

set_option maxHeartbeats 4000000 in
set_option maxRecDepth 100000 in
theorem rclaims_bad (p : Pr) (cs : List Value) (m : Int) (w : World) (base : Nat) (h : rpRd.R w base p cs) (hb : tbadB p m = true) :
    Calls Tryz.prog 10 #[.agg cs.toArray, .int .i64 m] w fun e w' => e = .returned (.tuple #[.slice none 0 0, .int .i64 68]) ∧ Below w.heap.size w w' := by
  obtain ⟨AC, AG, AL, cC, cG, cL, rfl, hr, hl⟩ := h
  obtain ⟨C, G, T, L, K, D, S⟩ := p
  unfold tbadB at hb
  simp only at hb ⊢
  have hL : L.length ≤ 17592186044416 := Nat.le_trans hl.l.2 (by decide)
  clear hr hl
  by_cases h1 : m < 1
  · clear hb
    go_enter Tryz.func10, Tryz.ntmps10
    go_wp2
    go_ret2
    exact ⟨rfl, below_new (Below.refl _ _) _⟩
  · have d1 : decide (m < 1) = false := decide_eq_false h1
    by_cases h2 : 256 < m
    · clear hb
      go_enter Tryz.func10, Tryz.ntmps10
      go_wp2
      go_ret2
      exact ⟨rfl, below_new (Below.refl _ _) _⟩
    · have d2 : decide (256 < m) = false := decide_eq_false h2
      by_cases h3 : T < -1
      · clear hb
        go_enter Tryz.func10, Tryz.ntmps10
        go_wp2
        go_ret2
        exact ⟨rfl, below_new (Below.refl _ _) _⟩
      · have d3 : decide (T < -1) = false := decide_eq_false h3
        by_cases h4 : m ≤ T
        · clear hb
          go_enter Tryz.func10, Tryz.ntmps10
          go_wp2
          go_ret2
          exact ⟨rfl, below_new (Below.refl _ _) _⟩
        · have d4 : decide (m ≤ T) = false := decide_eq_false h4
          rw [d1, d2, d3, d4] at hb
          simp only [Bool.false_or, Bool.and_eq_true, decide_eq_true_eq, Bool.or_eq_true] at hb
          obtain ⟨h5, h6⟩ := hb
          have e5 : ((L.length : Int) == 0) = true := by simp [h5]
          have e5' : decide (L.length = 0) = true := decide_eq_true h5
          have H5 := Lib.hid h5
          by_cases h7 : T < 0
          · clear h5 h6
            go_enter Tryz.func10, Tryz.ntmps10
            go_wp2
            go_ret2
            exact ⟨rfl, below_new (Below.refl _ _) _⟩
          · have d7 : decide (T < 0) = false := decide_eq_false h7
            have h8 : m = 1 := by omega
            subst h8
            clear h5 h6
            go_enter Tryz.func10, Tryz.ntmps10
            go_wp2
            go_ret2
            exact ⟨rfl, below_new (Below.refl _ _) _⟩
/-- what the reference tells -/
def RClaimsPost (p : Pr) (m : Int) (base : Nat) (w : World) (e : Ending) (w' : World) : Prop :=
  ∃ B cc ls, e = .returned (.tuple #[.slice B ls.length cc, .int .i64 (errS p m : Nat)]) ∧ Hid (ls = (if errS p m = 0 then claimsL p m else [])) ∧ ls.length ≤ cc ∧ (bsl 50 u64).Row 33 w' base B ls ∧ Below w.heap.size w w'
theorem rclaims_err {p : Pr} {m : Int} {base : Nat} {w w' : World} {c : Nat} (h : errS p m = c) (hc : c ≠ 0) (hW : Below w.heap.size w w') : RClaimsPost p m base w (.returned (.tuple #[.slice none 0 0, .int .i64 (c : Nat)])) w' :=
  ⟨none, 0, [], by rw [h]; rfl, by rw [Hid, h, if_neg hc], Nat.le_refl _, Rd.Row.nil _ _ _ _ _, hW⟩
end Go.Proofs.YtcfejobdgiiihaaGreatDoor

namespace Go.Proofs.YtcfejobdgiiihaaGreatDoor
open Go.RowKit

abbrev blU : Rd (List Nat) := bsl 50 u64
abbrev uRow (W : World) (b1 : Nat) (B : Option Addr) (l : List Nat) : Prop := u64.Row 50 W b1 B l
theorem Blk.ne_ownb {α : Type} {d : Rd α} {w : World} {b t t' b0 base : Nat} {cs : List Value} {v : Value} {es : List α} (h : Blk w b t cs) (ho : d.Own t' w b0 base v es) (ht : t ≠ t') : some b ≠ v.ownBlock := h.ne_ownd ho ht
set_option maxHeartbeats 8000000 in
set_option maxRecDepth 100000 in
theorem rclaims_good (p : Pr) (cs : List Value) (m : Nat) (w : World) (b1 base : Nat) (h : rpRd.R w b1 p cs) (hb : tbadB p m = false) (hL3 : p.L.length ≤ 1000000) (hbase : base ≤ w.heap.size) :
    Calls Tryz.prog 10 #[.agg cs.toArray, .int .i64 m] w (RClaimsPost p m base w) := by
  obtain ⟨AC, AG, AL, cC, cG, cL, rfl, hr, hl⟩ := h
  obtain ⟨C, G, T, L, K, D, S⟩ := p
  have HTB := Lib.hid hb
  unfold tbadB at hb
  simp only [Bool.or_eq_false_iff, decide_eq_false_iff_not] at hb hL3 ⊢
  obtain ⟨⟨⟨⟨h1, h2⟩, h3⟩, h4⟩, h6⟩ := hb
  have d1 : decide ((m : Int) < 1) = false := decide_eq_false h1
  have d2 : decide ((256 : Int) < m) = false := decide_eq_false h2
  have d3 : decide (T < -1) = false := decide_eq_false h3
  have d4 : decide ((m : Int) ≤ T) = false := decide_eq_false h4
  have hsplit : ((L.length : Int) == 0) = false ∨ (((L.length : Int) == 0) = true ∧ decide (T < 0) = false ∧ ((m : Int) == 1) = false) := by
    by_cases h5 : L.length = 0
    · rw [decide_eq_true h5, Bool.true_and, Bool.or_eq_false_iff, decide_eq_false_iff_not, decide_eq_false_iff_not] at h6
      exact .inr ⟨by simp; exact List.length_eq_zero_iff.1 h5, decide_eq_false h6.1, by simp; omega⟩
    · exact .inl (by simp; intro h; exact h5 (by rw [h]; rfl))
  have hL : L.length ≤ 17592186044416 := Nat.le_trans hl.l.2 (by decide)
  have HRL := Lib.hid (fun W (hW : Below w.heap.size w W) => (show blU.Row 33 W b1 AL L from hr.L.below hW))
  have HW := Lib.hid (below_new (Below.refl w.heap.size w) (.cells #[.slice AC C.length cC, .slice AG G.length cG, .int .i64 T, .slice AL L.length cL, .int .i64 K, .int .i64 D, .int .i64 S] 35))
  have HB := Lib.hid (Blk.new w #[.slice AC C.length cC, .slice AG G.length cG, .int .i64 T, .slice AL L.length cL, .int .i64 K, .int .i64 D, .int .i64 S] 35)
  have HNUM := Lib.hid (fun B (l : List Nat) lc W (hl : uRow W b1 B l) (hll : l.length ≤ 17592186044416) => numbers6_calls B l l.length lc 50 b1 W rfl hl hll)
  clear hr hl
  have hm1 : 1 ≤ m := by omega
  have hm2 : m ≤ 256 := by omega
  have ht1 : -1 ≤ T := by omega
  have ht2 : T < (m : Int) := by omega
  clear h1 h2 h3 h4 h6
  rcases hsplit with e5 | ⟨e5, d7, d8⟩
  all_goals (
    go_enter Tryz.func10, Tryz.ntmps10
    go_wp2
    try clear d7 d8
    clear d1 d2 d3 d4 e5
    go_loop [6] (fun i => ∃ k : Nat, k ≤ L.length ∧ i = .int .i64 k ∧ Hid ((L.take k).all (fun l => decide ((l.length : Int) = m + 1)) = true)) (fun i => L.length - (intOf i).toNat)
    case atStart => exact ⟨0, by omega, rfl, rfl⟩
    case round =>
      obtain ⟨k, hk, rfl, hall⟩ := hrel
      by_cases hlt : k < L.length
      · obtain ⟨b, B, l, lc, rfl, hcg, hge, hlc, hlC, hrow⟩ := bsl_at (HRL.out _ HW.out) hlt
        have hi1 : (k : Int) < (L.length : Int) := by omega
        by_cases hll : (l.length : Int) = (m : Int) + 1
        · have d1 : ((l.length : Int) != (m : Int) + 1) = false := by simp; exact hll
          have HLL := Lib.hid hll
          clear hrow hll
          go_wp2
          go_round
          case rel => exact ⟨k + 1, by omega, by go_num, by rw [Hid, allL_take_step hlt hge.out, hall.out, decide_eq_true HLL.out]; rfl⟩
          case measure => simp [intOf]; omega
        · have d1 : ((l.length : Int) != (m : Int) + 1) = true := by simp; exact hll
          have HLL := Lib.hid hll
          clear hrow hll
          go_wp2
          go_ret2
          exact rclaims_err (c := 63) (err63 HTB.out (allL_false hlt hge.out (decide_eq_false HLL.out))) (by decide) HW.out
      · obtain rfl : k = L.length := by omega
        have hall2 : Hid (L.all (fun l => decide ((l.length : Int) = m + 1)) = true) := by have := hall.out; rw [List.take_length] at this; exact this
        clear hall hlt
        go_wp2
        go_loop [7] (fun i => ∃ k : Nat, k ≤ L.length ∧ i = .int .i64 k ∧ Hid ((L.take k).all (fun l => l.all fin) = true)) (fun i => L.length - (intOf i).toNat)
        case atStart => exact ⟨0, by omega, rfl, rfl⟩
        case round =>
          obtain ⟨k, hk, rfl, hall⟩ := hrel
          by_cases hlt : k < L.length
          · obtain ⟨b, B, l, lc, rfl, hcg, hge, hlc, hlC, hrow⟩ := bsl_at (HRL.out _ HW.out) hlt
            have hi1 : (k : Int) < (L.length : Int) := by omega
            obtain ⟨f, hf⟩ : ∃ f, l.all fin = f := ⟨_, rfl⟩
            have HN := HNUM.out B l lc _ hrow hlC
            rw [hf] at HN
            have HNH := Lib.hid HN
            have HFH := Lib.hid hf
            clear hrow HN hf
            cases f
            · go_wp2_with fail
              refine HNH.out.mono ?_
              rintro e w' ⟨rfl, rfl⟩
              go_wp2
              go_ret2
              exact rclaims_err (c := 64) (err64 HTB.out hall2.out (allL_false hlt hge.out HFH.out)) (by decide) HW.out
            · go_wp2_with fail
              refine HNH.out.mono ?_
              rintro e w' ⟨rfl, rfl⟩
              go_wp2
              go_round
              case rel => exact ⟨k + 1, by omega, by go_num, by rw [Hid, allL_take_step hlt hge.out, hall.out, HFH.out]; rfl⟩
              case measure => simp [intOf]; omega
          · obtain rfl : k = L.length := by omega
            have hall3 : Hid (L.all (fun l => l.all fin) = true) := by have := hall.out; rw [List.take_length] at this; exact this
            clear hall hlt
            go_wp2
            go_loopw [8, 9] (fun v jv wr => ∃ (j : Nat) (ls : List (List Nat)), j ≤ m ∧ (j < m → 0 ≤ T ∨ j = 0) ∧ jv = .int .i64 j ∧ Hid (blU.Own 33 wr w.heap.size base v ls) ∧ Hid (ls = if 0 ≤ T then rowsS m T.toNat j else []) ∧ Hid (Blk wr w.heap.size 35 [.slice AC C.length cC, .slice AG G.length cG, .int .i64 T, .slice AL L.length cL, .int .i64 K, .int .i64 D, .int .i64 S]) ∧ Hid (Below w.heap.size w wr)) (fun _ jv _ => m - (intOf jv).toNat)
            case atStart => exact ⟨0, [], by omega, fun _ => .inr rfl, rfl, Rd.Own.nil _ _ _ _ _, by rw [Hid]; split <;> rfl, HB.out, HW.out⟩
            case round =>
              obtain ⟨j, ls, hj, hj0, rfl, hO, hE, hB, hW⟩ := hrel
              obtain ⟨vA, vc, rfl, _, _⟩ := hO.out.row
              have c2 : wr.cell? ⟨w.heap.size, 2, none⟩ = some (.int .i64 T) := hB.out.cell 2
              have HJ0 := Lib.hid hj0
              clear hj0
              by_cases hgo : j < m ∧ 0 ≤ T
              · obtain ⟨hjm, hT⟩ := hgo
                obtain ⟨tn, hTn⟩ : ∃ tn : Nat, T = tn := ⟨T.toNat, by omega⟩
                by_cases hjt : j = tn
                · have d1 : ((j : Int) != T) = false := by simp; omega
                  have HNX : Hid (rowsS m T.toNat (j + 1) = rowsS m T.toNat j) := by rw [Hid, rowsS, if_pos (by omega)]
                  clear hjt hTn
                  go_wp2
                  go_roundw
                  case rel => exact ⟨j + 1, ls, by omega, fun _ => .inl hT, by go_num, hO.out, by rw [Hid, hE.out, if_pos hT, if_pos hT, HNX.out], hB.out, hW.out⟩
                  case measure => simp [intOf]; omega
                · have d1 : ((j : Int) != T) = true := by simp; omega
                  have HJT := Lib.hid hjt
                  subst hTn
                  have HROW := Lib.hid (rrow_calls m tn j base wr hm2 (by omega) hjm)
                  have hwsz := hW.out.size
                  have hlen : (ls.length + 1) * 24 ≤ 140737488355328 := by
                    have h1 := hE.out
                    rw [if_pos hT] at h1
                    have := rowsS_len m (Int.toNat (tn : Int)) j
                    rw [← h1] at this
                    omega
                  have HE2 : Hid (ls ++ [rowS m tn j] = rowsS m tn (j + 1)) := by
                    have := hE.out
                    rw [if_pos hT, Int.toNat_natCast] at this
                    rw [Hid, this, rowsS, if_neg HJT.out]
                  have hrl : (rowS m tn j).length ≤ 17592186044416 := by rw [rowS_len]; omega
                  obtain ⟨rw0, hrw0⟩ : ∃ r, rowS m tn j = r := ⟨_, rfl⟩
                  rw [hrw0] at HROW HE2 hrl
                  clear hjt hrw0
                  go_wp2_with fail
                  refine HROW.out.mono ?_
                  rintro e w2 ⟨B2, cc2, rfl, hcc2, hr2, hW2⟩
                  have hR : Hid (blU.R w2 base rw0 [.slice B2 rw0.length cc2]) := ⟨⟨B2, cc2, rfl, hcc2, hr2⟩, hrl⟩
                  have HO2 := Lib.hid (hO.out.below hW2)
                  have HW2 := Lib.hid (below_next hW.out hW2)
                  have HB2 := Lib.hid (hB.out.below' hW2)
                  have hwsz2 := HW2.out.size
                  clear hr2 hW2 HROW
                  go_wp2_with (at_builtin; refine own_append' blU w2.heap.size w.heap.size base rfl rfl _ _ 30 33 (.slice none 0 0) 24 (by rfl) UU2 IU2 rfl (by decide) (by decide) _ ls rw0 [.slice B2 rw0.length cc2] (by rfl) (by rfl) hR.out (by decide) HO2.out hbase hwsz2 hlen ?_; intro v1 w1 hO1 hg1; have HR := Lib.hid (And.intro hO1 (And.intro (Rd.Own.below_of HO2.out HW2.out hg1) (Blk.grown HB2.out hg1 (HB2.out.ne_ownd HO2.out (by decide))))); clear hO1 hg1)
                  go_roundw
                  case rel => exact ⟨j + 1, _, by omega, fun _ => .inl hT, by go_num, HR.out.1, by rw [Hid, if_pos hT]; exact HE2.out, HR.out.2.2, HR.out.2.1⟩
                  case measure => simp [intOf]; omega
              · have HE3 : Hid (ls = if 0 ≤ T then rowsS m T.toNat m else []) := by
                  rw [Hid, hE.out]
                  by_cases hT : 0 ≤ T
                  · have : j = m := by omega
                    rw [this]
                  · rw [if_neg hT, if_neg hT]
                have c3 : wr.cell? ⟨w.heap.size, 3, none⟩ = some (.slice AL L.length cL) := hB.out.cell 3
                have hsp : decide (j < m) = false ∨ (decide (j < m) = true ∧ decide (0 ≤ T) = false) := by
                  by_cases h : j < m
                  · exact .inr ⟨decide_eq_true h, decide_eq_false (by omega)⟩
                  · exact .inl (decide_eq_false h)
                clear hgo
                rcases hsp with d1 | ⟨d1, d2⟩
                all_goals (
                  go_wp2
                  obtain ⟨wo, rfl⟩ : ∃ wo : World, wo = wr := ⟨_, rfl⟩
                  try clear d2
                  clear c2 c3 d1
                  go_loopw [8, 10, 11] (fun v iv _ wr => ∃ (k : Nat) (ls : List (List Nat)), k ≤ L.length ∧ iv = .int .i64 k ∧ Hid (blU.Own 33 wr w.heap.size base v ls) ∧ Hid (ls = (if 0 ≤ T then rowsS m T.toNat m else []) ++ L.take k) ∧ Hid (Blk wr w.heap.size 35 [.slice AC C.length cC, .slice AG G.length cG, .int .i64 T, .slice AL L.length cL, .int .i64 K, .int .i64 D, .int .i64 S]) ∧ Hid (Below w.heap.size w wr)) (fun _ iv _ _ => L.length - (intOf iv).toNat)
                  case atStart => exact ⟨0, ls, by omega, rfl, hO.out, by rw [Hid, List.take_zero, List.append_nil]; exact HE3.out, hB.out, hW.out⟩
                  case round =>
                    obtain ⟨k, ls', hk, rfl, hO, hE, hB, hW⟩ := hrel
                    obtain ⟨vA', vc', rfl, hvc', hvr'⟩ := hO.out.row
                    have HVR := Lib.hid hvr'
                    have c3 : wr.cell? ⟨w.heap.size, 3, none⟩ = some (.slice AL L.length cL) := hB.out.cell 3
                    by_cases hlt : k < L.length
                    · obtain ⟨b, B, l, lc, rfl, hcg, hge, hlc, hlC, hrow⟩ := bsl_at (HRL.out wr hW.out) hlt
                      have hll : (l.length : Int) = m + 1 := by
                        have := allL_getD hall2.out hlt
                        simp only [hge.out] at this
                        exact of_decide_eq_true this
                      have hl0 : 0 < l.length := by omega
                      have hl257 : l.length ≤ 257 := by omega
                      obtain ⟨ba, _, hBa, _⟩ := u64at hrow hl0
                      subst hBa
                      have hcells := u64_cells hrow
                      have hlb := u64bd hrow
                      have hi1 : (k : Int) < (L.length : Int) := by omega
                      obtain ⟨ii, hii, hi0, hi2, hi3⟩ := info_parts' IU1
                      have HLB := Lib.hid hlb
                      have HGE := hge
                      have hlen : (ls'.length + 1) * 24 ≤ 140737488355328 := by
                        have h1 := congrArg List.length hE.out
                        rw [List.length_append, List.length_take] at h1
                        have h2 : (if 0 ≤ T then rowsS m T.toNat m else []).length ≤ m := by
                          split
                          · exact rowsS_len _ _ _
                          · exact Nat.zero_le _
                        omega
                      have hwsz := hW.out.size
                      have HTK := Lib.hid (take_snocD (d := []) hlt hge.out)
                      clear hll hrow hlb hge hvr'
                      go_wp2_with (first | (at_builtin; refine wpList_append_own _ rfl (.tmp 103) (.tmp 108) 33 (by rfl) wr.heap.size 50 ii (.int .u64 0) 1 8 UU1 hii hi0 hi2 hi3 rfl (by decide) (.slice none 0 0) 0 [] (by rfl) (World.ownsRow_nil _ _ _ _) ba l.length lc (i64s l) (by rfl) (by simp [i64s]) hcells (by intro u hu; simp [i64s] at hu; obtain ⟨x, _, rfl⟩ := hu; rfl) (by simp only [maxLen]; omega) (by omega) (Nat.le_refl _) ?_; intro v1 w1 hown1 hg1 _; obtain ⟨IA, IC, rfl, hIC, hIR⟩ := (own_u64 (base := base) hown1 HLB.out).row; have he5 := (Below.refl wr.heap.size wr).grown hg1 (Nat.le_refl _) (fun k hk => by simp [Value.ownBlock] at hk); have HO2 := Lib.hid (hO.out.below he5); have HP2 : Hid (blU.R w1 base l [.slice IA l.length IC]) := ⟨⟨IA, IC, rfl, hIC, hIR⟩, hlC⟩; have HW2 := Lib.hid (below_next hW.out he5); have HB2 := Lib.hid (hB.out.below' he5); have hsz2 := HW2.out.size; clear hown1 hg1 he5 hIC hIR hcells hii hi0 hi2 hi3) | (at_builtin; refine own_append' blU w1.heap.size w.heap.size base rfl rfl _ _ 30 33 (.slice none 0 0) 24 (by rfl) UU2 IU2 rfl (by decide) (by decide) _ ls' l [.slice IA l.length IC] (by rfl) (by rfl) HP2.out (by decide) HO2.out hbase hsz2 hlen ?_; intro v3 w3 hO3 hg3; have HR := Lib.hid (And.intro hO3 (And.intro (Rd.Own.below_of HO2.out HW2.out hg3) (Blk.grown HB2.out hg3 (HB2.out.ne_ownd HO2.out (by decide))))); clear hO3 hg3))
                      go_roundw
                      case rel => exact ⟨k + 1, _, by omega, by go_num, HR.out.1, by rw [Hid, hE.out, List.append_assoc, ← HTK.out], HR.out.2.2, HR.out.2.1⟩
                      case measure => simp [intOf]; omega
                    · obtain rfl : k = L.length := by omega
                      have HVC := Lib.hid hvc'
                      clear hvr' hvc'
                      go_wp2
                      go_ret2
                      refine ⟨_, _, ls', ?_, ?_, HVC.out, HVR.out, hW.out⟩
                      · rw [err0 HTB.out hall2.out hall3.out]; rfl
                      · have := hE.out
                        rw [List.take_length] at this
                        rw [Hid, err0 HTB.out hall2.out hall3.out, if_pos rfl, this]; rfl))
theorem rclaims_calls (p : Pr) (cs : List Value) (m : Int) (w : World) (b1 base : Nat) (h : rpRd.R w b1 p cs) (hL3 : p.L.length ≤ 1000000) (hbase : base ≤ w.heap.size) :
    Calls Tryz.prog 10 #[.agg cs.toArray, .int .i64 m] w (RClaimsPost p m base w) := by
  by_cases hb : tbadB p m = true
  · refine (rclaims_bad p cs m w b1 h hb).mono ?_
    rintro e w' ⟨rfl, hW⟩
    exact rclaims_err (c := 68) (by unfold errS; rw [hb]; rfl) (by decide) hW
  · have hb' : tbadB p m = false := by simpa using hb
    have hm : 0 ≤ m := by
      unfold tbadB at hb'
      simp only [Bool.or_eq_false_iff, decide_eq_false_iff_not] at hb'
      omega
    obtain ⟨n, rfl⟩ := Int.eq_ofNat_of_zero_le hm
    exact rclaims_good p cs n w b1 base h hb' hL3 hbase
end Go.Proofs.YtcfejobdgiiihaaGreatDoor

namespace Go.Proofs.YtcfejobdgiiihaaGreatDoor
open Go.RowKit

abbrev zA : Zn := ⟨2, [4604930618986332160, 4598175219545276416], [0], [[4607182418800017408, 4607182418800017408]], [0, 0], false⟩
abbrev aA : List Nat := [4607182418800017408, 13830554455654793216, 0]
abbrev aB : List Nat := [4607182418800017408, 0, 0]
theorem mA : marginS zA aA = some 4602678819172646912 := by decide +kernel
theorem mB : marginS zA aB = some 13821547256400052224 := by decide +kernel
theorem wA : worstS zA [aA, aB] = some (1, 13821547256400052224) := by decide +kernel
theorem sA : signsS zA aB (1 : Nat) = [-1] := by decide +kernel
abbrev pA : Pr := ⟨[], [], 0, [], 0, 0, 0⟩
theorem eA : errS pA 2 = 0 := by decide +kernel
theorem lA : claimsL pA 2 = [aA] := by decide +kernel
theorem f64all {t b : Nat} {w : World} {base : Nat} {zs : List Nat} (h : Blk w b t (f64s zs)) (hz : ∀ d ∈ zs, d < B64) : f64.Row t w base (some ⟨b, 0, none⟩) zs :=
  h.row (by rw [List.take_of_length_le (by simp [f64s])]; rfl) hz
theorem i64all {t b : Nat} {w : World} {base : Nat} {zs : List Int} (h : Blk w b t (iInts zs)) (hz : ∀ d ∈ zs, InInt d) : i64.Row t w base (some ⟨b, 0, none⟩) zs :=
  h.row (by rw [List.take_of_length_le (by simp [iInts])]; rfl) hz
theorem bslall {α : Type} {te t b : Nat} {d : Rd α} {w : World} {base : Nat} {gs : List (List α)} {cs : List Value} (h : Blk w b t cs)
    (hr : ∀ (i : Nat) (l : List α), gs[i]? = some l → ∃ (A : Option Addr) (c : Nat), cs[i]? = some (Value.slice A l.length c) ∧ l.length ≤ c ∧ l.length ≤ 17592186044416 ∧ d.Row te w base A l) : (bsl te d).Row t w base (some ⟨b, 0, none⟩) gs := by
  intro i l hi
  obtain ⟨A, c, h1, h2, h3, h4⟩ := hr i l hi
  refine ⟨_, [.slice A l.length c], rfl, .inr ⟨_, h⟩, h.lt, ⟨⟨A, c, rfl, h2, h4⟩, h3⟩, fun j u hj => ?_⟩
  rcases j with _ | j
  · simp at hj
    subst hj
    have : (bsl te d).sz = 1 := rfl
    rw [this, Nat.mul_one, Nat.add_zero]
    have ha : (⟨b, 0, none⟩ : Addr).add i = ⟨b, i, none⟩ := by unfold Addr.add; split <;> simp_all
    rw [ha, h.cell]; exact h1
  · simp at hj
abbrev zcsA (g : Nat) : List Value := [.int .i64 2, .slice (some ⟨g, 0, none⟩) 2 2, .slice (some ⟨g + 1, 0, none⟩) 1 1, .slice (some ⟨g + 1 + 1 + 1, 0, none⟩) 1 1, .slice (some ⟨g + 1 + 1 + 1 + 1, 0, none⟩) 2 2, .bool false]
structure AwZ (w : World) (wx : World) : Prop where
  z : zRd.R wx w.heap.size zA (zcsA w.heap.size)
  b : Blk wx (w.heap.size + 1 + 1 + 1 + 1 + 1) 42 (zcsA w.heap.size)
  w : Below w.heap.size w wx
theorem AwZ.below {w W W' : World} (h : AwZ w W) (hW : Below W.heap.size W W') : AwZ w W' := ⟨zRd.below h.z hW, h.b.below' hW, below_next h.w hW⟩
theorem blk_new' (w : World) (g : Nat) (hg : w.heap.size = g) (cs : Array Value) (t : Nat) : Blk (w.alloc (.cells cs t)) g t cs.toList := by subst hg; exact Blk.new w cs t
theorem awz (w : World) : AwZ w ((((((w.alloc (.cells #[.float .f64 4604930618986332160, .float .f64 4598175219545276416] 47)).alloc (.cells #[.int .i64 0] 3)).alloc (.cells #[.float .f64 4607182418800017408, .float .f64 4607182418800017408] 47)).alloc (.cells #[.slice (some ⟨w.heap.size + 1 + 1, 0, none⟩) 2 2] 22)).alloc (.cells #[.float .f64 0, .float .f64 0] 47)).alloc (.cells (zcsA w.heap.size).toArray 42)) := by
  have b0 := (((((blk_new' w _ rfl #[.float .f64 4604930618986332160, .float .f64 4598175219545276416] 47).alloc (.cells #[.int .i64 0] 3)).alloc (.cells #[.float .f64 4607182418800017408, .float .f64 4607182418800017408] 47)).alloc (.cells #[.slice (some ⟨w.heap.size + 1 + 1, 0, none⟩) 2 2] 22)).alloc (.cells #[.float .f64 0, .float .f64 0] 47)).alloc (.cells (zcsA w.heap.size).toArray 42)
  have b1 := ((((blk_new' (w.alloc (.cells #[.float .f64 4604930618986332160, .float .f64 4598175219545276416] 47)) (w.heap.size + 1) (by simp) #[.int .i64 0] 3).alloc (.cells #[.float .f64 4607182418800017408, .float .f64 4607182418800017408] 47)).alloc (.cells #[.slice (some ⟨w.heap.size + 1 + 1, 0, none⟩) 2 2] 22)).alloc (.cells #[.float .f64 0, .float .f64 0] 47)).alloc (.cells (zcsA w.heap.size).toArray 42)
  have b2 := (((blk_new' ((w.alloc (.cells #[.float .f64 4604930618986332160, .float .f64 4598175219545276416] 47)).alloc (.cells #[.int .i64 0] 3)) (w.heap.size + 1 + 1) (by simp) #[.float .f64 4607182418800017408, .float .f64 4607182418800017408] 47).alloc (.cells #[.slice (some ⟨w.heap.size + 1 + 1, 0, none⟩) 2 2] 22)).alloc (.cells #[.float .f64 0, .float .f64 0] 47)).alloc (.cells (zcsA w.heap.size).toArray 42)
  have b3 := ((blk_new' (((w.alloc (.cells #[.float .f64 4604930618986332160, .float .f64 4598175219545276416] 47)).alloc (.cells #[.int .i64 0] 3)).alloc (.cells #[.float .f64 4607182418800017408, .float .f64 4607182418800017408] 47)) (w.heap.size + 1 + 1 + 1) (by simp) #[.slice (some ⟨w.heap.size + 1 + 1, 0, none⟩) 2 2] 22).alloc (.cells #[.float .f64 0, .float .f64 0] 47)).alloc (.cells (zcsA w.heap.size).toArray 42)
  have b4 := (blk_new' ((((w.alloc (.cells #[.float .f64 4604930618986332160, .float .f64 4598175219545276416] 47)).alloc (.cells #[.int .i64 0] 3)).alloc (.cells #[.float .f64 4607182418800017408, .float .f64 4607182418800017408] 47)).alloc (.cells #[.slice (some ⟨w.heap.size + 1 + 1, 0, none⟩) 2 2] 22)) (w.heap.size + 1 + 1 + 1 + 1) (by simp) #[.float .f64 0, .float .f64 0] 47).alloc (.cells (zcsA w.heap.size).toArray 42)
  have b5 := blk_new' (((((w.alloc (.cells #[.float .f64 4604930618986332160, .float .f64 4598175219545276416] 47)).alloc (.cells #[.int .i64 0] 3)).alloc (.cells #[.float .f64 4607182418800017408, .float .f64 4607182418800017408] 47)).alloc (.cells #[.slice (some ⟨w.heap.size + 1 + 1, 0, none⟩) 2 2] 22)).alloc (.cells #[.float .f64 0, .float .f64 0] 47)) (w.heap.size + 1 + 1 + 1 + 1 + 1) (by simp) (zcsA w.heap.size).toArray 42
  have hW := below_new (below_new (below_new (below_new (below_new (below_new (Below.refl w.heap.size w) (.cells #[.float .f64 4604930618986332160, .float .f64 4598175219545276416] 47)) (.cells #[.int .i64 0] 3)) (.cells #[.float .f64 4607182418800017408, .float .f64 4607182418800017408] 47)) (.cells #[.slice (some ⟨w.heap.size + 1 + 1, 0, none⟩) 2 2] 22)) (.cells #[.float .f64 0, .float .f64 0] 47)) (.cells (zcsA w.heap.size).toArray 42)
  generalize (((((w.alloc (.cells #[.float .f64 4604930618986332160, .float .f64 4598175219545276416] 47)).alloc (.cells #[.int .i64 0] 3)).alloc (.cells #[.float .f64 4607182418800017408, .float .f64 4607182418800017408] 47)).alloc (.cells #[.slice (some ⟨w.heap.size + 1 + 1, 0, none⟩) 2 2] 22)).alloc (.cells #[.float .f64 0, .float .f64 0] 47)).alloc (.cells (zcsA w.heap.size).toArray 42) = W at *
  refine ⟨⟨some ⟨w.heap.size, 0, none⟩, some ⟨w.heap.size + 1, 0, none⟩, some ⟨w.heap.size + 1 + 1 + 1, 0, none⟩, some ⟨w.heap.size + 1 + 1 + 1 + 1, 0, none⟩, 2, 1, 1, 2, rfl, ⟨f64all b0 (by decide), i64all b1 (by decide), bslall b3 ?_, f64all b4 (by decide)⟩, by constructor <;> decide⟩, b5, hW⟩
  intro i l hi
  rcases i with _ | i
  · simp at hi
    subst hi
    exact ⟨some ⟨w.heap.size + 1 + 1, 0, none⟩, 2, rfl, by decide, by decide, f64all b2 (by decide)⟩
  · simp at hi
theorem awM (w W : World) (hz : AwZ w W) (a : List Nat) (m : Nat) (ha : a.length = 3) (hb : ∀ d ∈ a, d < B64) (hm : marginS zA a = some m) :
    Calls Tryz.prog 16 #[.agg (zcsA w.heap.size).toArray, .slice (some ⟨W.heap.size, 0, none⟩) 3 3] (W.alloc (.cells (f64s a).toArray 47)) fun e w' => e = .returned (.tuple #[.float .f64 m, .bool true]) ∧ AwZ w w' := by
  have h := below_new (Below.refl W.heap.size W) (.cells (f64s a).toArray 47)
  refine (mmargin_calls zA (zcsA w.heap.size) _ a 3 3 _ w.heap.size (zRd.below hz.z h) ha (f64all (Blk.new W (f64s a).toArray 47) hb) (by omega)).mono ?_
  rintro e w' ⟨rfl, hW⟩
  rw [hm]
  exact ⟨rfl, hz.below (below_next h hW)⟩
theorem awW (w W : World) (hz : AwZ w W) :
    Calls Tryz.prog 22 #[.agg (zcsA w.heap.size).toArray, .slice (some ⟨W.heap.size + 1 + 1, 0, none⟩) 2 2] (((W.alloc (.cells (f64s aA).toArray 47)).alloc (.cells (f64s aB).toArray 47)).alloc (.cells #[.slice (some ⟨W.heap.size, 0, none⟩) 3 3, .slice (some ⟨W.heap.size + 1, 0, none⟩) 3 3] 22))
      fun e w' => e = .returned (.tuple #[.int .i64 1, .float .f64 13821547256400052224, .bool true]) ∧ AwZ w w' := by
  have h := below_new (below_new (below_new (Below.refl W.heap.size W) (.cells (f64s aA).toArray 47)) (.cells (f64s aB).toArray 47)) (.cells #[.slice (some ⟨W.heap.size, 0, none⟩) 3 3, .slice (some ⟨W.heap.size + 1, 0, none⟩) 3 3] 22)
  have b0 := ((blk_new' W _ rfl (f64s aA).toArray 47).alloc (.cells (f64s aB).toArray 47)).alloc (.cells #[.slice (some ⟨W.heap.size, 0, none⟩) 3 3, .slice (some ⟨W.heap.size + 1, 0, none⟩) 3 3] 22)
  have b1 := (blk_new' (W.alloc (.cells (f64s aA).toArray 47)) (W.heap.size + 1) (by simp) (f64s aB).toArray 47).alloc (.cells #[.slice (some ⟨W.heap.size, 0, none⟩) 3 3, .slice (some ⟨W.heap.size + 1, 0, none⟩) 3 3] 22)
  have b2 := blk_new' ((W.alloc (.cells (f64s aA).toArray 47)).alloc (.cells (f64s aB).toArray 47)) (W.heap.size + 1 + 1) (by simp) #[.slice (some ⟨W.heap.size, 0, none⟩) 3 3, .slice (some ⟨W.heap.size + 1, 0, none⟩) 3 3] 22
  refine (mworst_calls zA (zcsA w.heap.size) _ [aA, aB] 2 2 _ w.heap.size (zRd.below hz.z h) rfl (bslall b2 ?_) (by decide)).mono ?_
  · intro i l hi
    rcases i with _ | _ | i
    · simp at hi
      subst hi
      exact ⟨some ⟨W.heap.size, 0, none⟩, 3, rfl, by decide, by decide, f64all b0 (by decide)⟩
    · simp at hi
      subst hi
      exact ⟨some ⟨W.heap.size + 1, 0, none⟩, 3, rfl, by decide, by decide, f64all b1 (by decide)⟩
    · simp at hi
  · intro e w' hh
    rw [wA] at hh
    exact ⟨hh.1, hz.below (below_next h hh.2)⟩
theorem awC (w W : World) (hz : AwZ w W) :
    Calls Tryz.prog 9 #[.agg #[.slice none 0 0, .slice none 0 0, .int .i64 0, .slice none 0 0, .int .i64 0, .int .i64 0, .int .i64 0], .int .i64 2] W
      fun e w' => ∃ a g cap c, e = .returned (.tuple #[.slice (some a) 1 c, .int .i64 0]) ∧ w'.cell? a = some (.slice (some ⟨g, 0, none⟩) 3 cap) ∧ w'.cell? ⟨g, 0, none⟩ = some (.float .f64 4607182418800017408) ∧ w'.cell? ⟨g, 1, none⟩ = some (.float .f64 13830554455654793216) ∧ w'.cell? ⟨g, 2, none⟩ = some (.float .f64 0) ∧ AwZ w w' := by
  refine (mclaims_calls pA [.slice none 0 0, .slice none 0 0, .int .i64 0, .slice none 0 0, .int .i64 0, .int .i64 0, .int .i64 0] 2 W w.heap.size ⟨none, none, none, 0, 0, 0, rfl, ⟨Rd.Row.nil _ _ _ _ _, Rd.Row.nil _ _ _ _ _, Rd.Row.nil _ _ _ _ _⟩, by constructor <;> decide⟩ (by decide)).mono ?_
  rintro e w' ⟨v, es, rfl, hO, hN, hE, hW⟩
  rw [eA, if_pos rfl, lA] at hE
  obtain ⟨A, c, rfl, hc, hr⟩ := hO.row
  rcases es with _ | ⟨e0, _ | ⟨e1, es⟩⟩
  · simp at hE
  · simp only [List.map_cons, List.map_nil, List.cons.injEq, and_true] at hE
    obtain ⟨a, cs, ha, _, _, ⟨hcs, ho⟩, hcell⟩ := hr 0 e0 rfl
    subst ha
    subst hcs
    have h0 := hcell 0 _ rfl
    rcases ho.own.2 with ⟨hn, _⟩ | ⟨g, cap, cur, hv, hg, hh, h1, h2, h3, h4⟩
    · simp [OL.val] at hn
    · have hv' := hv
      simp only [OL.val, Value.slice.injEq, Option.some.injEq, Addr.mk.injEq, and_true] at hv'
      obtain ⟨hgg, _, hcc⟩ := hv'
      rw [hE] at h4
      have hl : e0.l.length = 3 := by rw [hE]; rfl
      have hcl : ∀ i u, (f64s aA)[i]? = some u → w'.cell? ⟨e0.g, i, none⟩ = some u := by
        intro i u hi
        rw [← h4, List.getElem?_take] at hi
        split at hi
        · rw [hgg, cell_of_row w' g _ cur _ (0, 0) hh, ← Array.getElem?_toList]; exact hi
        · simp at hi
      refine ⟨a, e0.g, e0.cap, c, by rw [eA]; rfl, ?_, hcl 0 _ rfl, hcl 1 _ rfl, hcl 2 _ rfl, hz.below hW⟩
      have e : a.add (0 * olRd.sz + 0) = a := by simp [Addr.add]
      rw [e] at h0
      rw [h0, OL.val, hl]
  · simp at hE
theorem awS (w W : World) (hz : AwZ w W) :
    Calls Tryz.prog 20 #[.agg (zcsA w.heap.size).toArray, .slice (some ⟨W.heap.size, 0, none⟩) 3 3, .int .i64 1] (W.alloc (.cells (f64s aB).toArray 47)) fun e w' => ∃ g, e = .returned (.slice (some ⟨g, 0, none⟩) 1 1) ∧ Blk w' g 3 [.int .i64 (-1)] ∧ AwZ w w' := by
  have h := below_new (Below.refl W.heap.size W) (.cells (f64s aB).toArray 47)
  refine (msigns_calls zA (zcsA w.heap.size) _ aB 3 3 1 _ w.heap.size (zRd.below hz.z h) rfl (f64all (Blk.new W (f64s aB).toArray 47) (by decide)) (by decide) (by decide)).mono ?_
  rintro e w' ⟨g, rfl, _, hb, hW⟩
  rw [sA] at hb
  exact ⟨g, rfl, hb, hz.below (below_next h hW)⟩
theorem awI (W : World) (g : Nat) (h : Blk W g 3 [.int .i64 (-1)]) :
    Calls Tryz.prog 19 #[.slice (some ⟨g, 0, none⟩) 1 1, .slice (some ⟨W.heap.size, 0, none⟩) 1 1] (W.alloc (.cells #[.int .i64 (-1)] 3)) fun e w' => e = .returned (.bool true) ∧ ∃ q, w' = (W.alloc (.cells #[.int .i64 (-1)] 3)).drewN q := by
  exact sameints_calls (some ⟨g, 0, none⟩) (some ⟨W.heap.size, 0, none⟩) [-1] [-1] 1 1 1 1 3 3 0 0 _ rfl rfl (i64all (zs := [-1]) (h.alloc _) (by decide)) (i64all (zs := [-1]) (blk_new' W _ rfl #[.int .i64 (-1)] 3) (by decide)) (by decide) (by decide)
theorem six' {w : World} {b t : Nat} {x0 x1 x2 x3 x4 x5 : Value} (h : Blk w b t [x0, x1, x2, x3, x4, x5]) :
    w.cell? ⟨b, 0, none⟩ = some x0 ∧ w.cell? ⟨b, 1, none⟩ = some x1 ∧ w.cell? ⟨b, 2, none⟩ = some x2 ∧ w.cell? ⟨b, 3, none⟩ = some x3 ∧ w.cell? ⟨b, 4, none⟩ = some x4 ∧ w.cell? ⟨b, 5, none⟩ = some x5 := six h
set_option maxHeartbeats 4000000 in
set_option maxRecDepth 100000 in
theorem awake_calls (w : World) : Calls Tryz.prog 8 #[] w fun e w' => e = .returned (.bool true) ∧ Below w.heap.size w w' := by
  have HZ0 := Lib.hid (awz w)
  have HM := Lib.hid (fun W hz => awM w W hz)
  have HWO := Lib.hid (fun W hz => awW w W hz)
  have HC := Lib.hid (fun W hz => awC w W hz)
  have HS := Lib.hid (fun W hz => awS w W hz)
  have HI := Lib.hid (fun W g h => awI W g h)
  go_enter Tryz.func8, Tryz.ntmps8
  go_upto_region 1 with fail
  go_cut [1] (fun s1 wx => s1 = .pointer (some ⟨w.heap.size + 1 + 1 + 1 + 1 + 1, 0, none⟩) ∧ Hid (AwZ w wx))
  case first =>
    go_wp2
    go_meet
    exact ⟨rfl, HZ0.out⟩
  case rest =>
    obtain ⟨rfl, hz⟩ := hcut
    clear HZ0
    obtain ⟨wa, rfl⟩ : ∃ wo : World, wo = wc := ⟨_, rfl⟩
    obtain ⟨c0, c1, c2, c3, c4, c5⟩ := six' hz.out.b
    go_wp2_with fail
    refine (HM.out wa hz.out aA _ rfl (by decide) mA).mono ?_
    rintro e w2 ⟨rfl, h2⟩
    have H2 := Lib.hid h2
    clear c0 c1 c2 c3 c4 c5 h2 hz
    obtain ⟨c0, c1, c2, c3, c4, c5⟩ := six' H2.out.b
    go_wp2_with fail
    refine (HM.out w2 H2.out aB _ rfl (by decide) mB).mono ?_
    rintro e w3 ⟨rfl, h3⟩
    have H3 := Lib.hid h3
    clear c0 c1 c2 c3 c4 c5 h3 H2
    obtain ⟨c0, c1, c2, c3, c4, c5⟩ := six' H3.out.b
    go_wp2_with fail
    refine (HWO.out w3 H3.out).mono ?_
    rintro e w4 ⟨rfl, h4⟩
    have H4 := Lib.hid h4
    clear c0 c1 c2 c3 c4 c5 h4 H3
    go_wp2_with fail
    refine (HC.out w4 H4.out).mono ?_
    rintro e w5 ⟨a, g, cap, c, rfl, k0, k1, k2, k3, h5⟩
    have H5 := Lib.hid h5
    clear h5 H4
    obtain ⟨c0, c1, c2, c3, c4, c5⟩ := six' H5.out.b
    go_wp2_with fail
    refine (HS.out w5 H5.out).mono ?_
    rintro e w6 ⟨g2, rfl, hb, h6⟩
    have H6 := Lib.hid h6
    clear c0 c1 c2 c3 c4 c5 h6 H5 k0 k1 k2 k3
    go_wp2_with fail
    refine (HI.out w6 g2 hb).mono ?_
    rintro e w7 ⟨rfl, q, rfl⟩
    go_wp2
    go_ret
    exact ⟨rfl, below_drewN (below_new H6.out.w _) q⟩
end Go.Proofs.YtcfejobdgiiihaaGreatDoor

namespace Go.Proofs.YtcfejobdgiiihaaGreatDoor
open Go.RowKit

theorem UN1 : Tryz.prog.underlying 62 = some (.slice 72) := by kernel_rfl
theorem IN1 : (Tryz.prog.info? 72).map (fun i => (i.zero, i.size, i.bytes)) = some (some (.agg #[.bool false, .slice none 0 0, .int .i64 0]), 3, 40) := by kernel_rfl
/-- the real numbers of a list of numbers' bits -/
abbrev nRd : Rd Int := numRd 1074
theorem map_take_snoc {xs : List Nat} {k x : Nat} (hk : k < xs.length) (hx : xs.getD k 0 = x) : (xs.take (k + 1)).map fv = (xs.take k).map fv ++ [fv x] := by
  rw [take_snocD hk hx, List.map_append]; rfl
set_option maxHeartbeats 4000000 in
set_option maxRecDepth 100000 in
theorem exact_calls (A : Option Addr) (l : List Nat) (n c t b1 base : Nat) (w : World) (hn : l.length = n) (hA : u64.Row t w b1 A l) (hl : n ≤ 1099511627776) (hbase : base ≤ w.heap.size) :
    Calls Tryz.prog 25 #[.slice A n c] w fun e w' => ∃ B k cc, e = .returned (.tuple #[.slice B k cc, .bool (l.all fin)]) ∧ k ≤ cc ∧ Below w.heap.size w w' ∧ (l.all fin = true → k = l.length ∧ nRd.Row 72 w' base B (l.map fv)) := by
  subst hn
  have HA := Lib.hid (fun W (hW : Below w.heap.size w W) => (show u64.Row t W b1 A l from hA.below hW))
  clear hA
  go_enter Tryz.func25, Tryz.ntmps25
  go_wp2
  go_loopw [4, 5] (fun v i wr => ∃ k : Nat, k ≤ l.length ∧ i = .int .i64 k ∧ Hid ((l.take k).all fin = true) ∧ Hid (nRd.Own 72 wr w.heap.size base v ((l.take k).map fv)) ∧ Hid (Below w.heap.size w wr)) (fun _ i _ => l.length - (intOf i).toNat)
  case atStart => exact ⟨0, by omega, rfl, rfl, by rw [Hid, List.take_zero]; exact Rd.Own.nil _ _ _ _ _, Below.refl _ _⟩
  case round =>
    obtain ⟨k, hk, rfl, hall, hO, hW⟩ := hrel
    have hlt0 : ((l.take k).map fv).length = k := by rw [List.length_map, List.length_take]; omega
    obtain ⟨vA, vc, rfl, hvc0, hvrow⟩ := hO.out.row
    rw [hlt0] at hO ⊢
    by_cases hlt : k < l.length
    · obtain ⟨a, x, rfl, hcx, hxb, hxe⟩ := u64at (HA.out wr hW.out) hlt
      have hi1 : (k : Int) < (l.length : Int) := by omega
      have hwsz := hW.out.size
      have hlen : (((l.take k).map fv).length + 1) * 40 ≤ 140737488355328 := by rw [hlt0]; omega
      have HT := Lib.hid (map_take_snoc hlt hxe.out)
      clear hlt0 hvrow hvc0
      by_cases hf : fin x = true
      · have HB := Lib.hid (of_fin x base wr hxb hf)
        have HF := Lib.hid hf
        clear hf
        go_wp2_with fail
        refine HB.out.mono ?_
        rintro e w2 ⟨cs, rfl, hr, hW2⟩
        have HR := Lib.hid hr
        obtain ⟨neg, m, ex, v, rfl, ⟨xs, A2, c2, hv, hc, hr2, ht, hval⟩, he, heb, hX⟩ := hr
        cases hv
        have HO2 := Lib.hid (hO.out.below hW2)
        have HW2 := Lib.hid (below_next hW.out hW2)
        have hwsz2 := HW2.out.size
        have HR2 := Lib.hid (fun o => nRd.below HR.out (below_new (Below.refl w2.heap.size w2) o))
        have HO3 := Lib.hid (fun o => HO2.out.below (below_new (Below.refl w2.heap.size w2) o))
        have HW3 := Lib.hid (fun o => below_new HW2.out o)
        clear hW2 hc hr2 ht hval he heb hX HB HR HO2
        go_wp2_with (at_builtin; refine own_append' nRd (w2.heap.size + 1) w.heap.size base (by simp) rfl _ _ 62 72 (.agg #[.bool false, .slice none 0 0, .int .i64 0]) 40 (by rfl) UN1 IN1 rfl (by decide) (by decide) _ ((l.take k).map fv) (fv x) _ (by rfl) (by rfl) (HR2.out _) (by decide) (HO3.out _) hbase (Nat.le_succ_of_le hwsz2) hlen ?_; intro v1 w1 hO1 hg1; have HRR := Lib.hid (And.intro hO1 (Rd.Own.below_of (HO3.out _) (HW3.out _) hg1)); clear hO1 hg1)
        go_roundw
        case rel => exact ⟨k + 1, by omega, by go_num, by rw [Hid, all_take_step hlt hxe.out, hall.out, HF.out]; rfl, by rw [HT.out]; exact HRR.out.1, HRR.out.2⟩
        case measure => simp [intOf]; omega
      · have hf' : fexp x = 2047 := by simpa [fin] using hf
        have HB := Lib.hid (of_bad x wr hxb hf')
        have HF : Hid (fin x = false) := by simpa [Hid] using hf
        clear hf hf'
        go_wp2_with fail
        refine HB.out.mono ?_
        rintro e w2 ⟨rfl, hW2⟩
        have HW2 := Lib.hid (below_next hW.out hW2)
        clear hW2 HB
        go_wp2
        go_ret2
        have hff : l.all fin = false := all_take_false hlt hxe.out HF.out
        exact ⟨none, 0, 0, by rw [hff]; rfl, Nat.le_refl _, below_new HW2.out _, fun h => by rw [hff] at h; cases h⟩
    · obtain rfl : k = l.length := by omega
      have hall2 : Hid (l.all fin = true) := by have := hall.out; rw [List.take_length] at this; exact this
      rw [List.take_length] at hvrow
      have HV := Lib.hid hvrow
      have hvc : l.length ≤ vc := by rw [List.length_map, List.take_length] at hvc0; exact hvc0
      clear hlt0 hvrow hvc0
      go_wp2
      go_ret2
      exact ⟨vA, l.length, vc, by rw [hall2.out]; rfl, hvc, hW.out, fun _ => ⟨rfl, HV.out⟩⟩
end Go.Proofs.YtcfejobdgiiihaaGreatDoor

namespace Go.Proofs.YtcfejobdgiiihaaGreatDoor
open Go.RowKit

set_option maxHeartbeats 4000000 in
set_option maxRecDepth 100000 in
theorem numbers_calls (A : Option Addr) (l : List Nat) (n c t b1 base : Nat) (N : Int) (w : World) (hn : l.length = n) (hA : u64.Row t w b1 A l) (hl : (n : Int) = N → n ≤ 1099511627776) (hbase : base ≤ w.heap.size) :
    Calls Tryz.prog 58 #[.slice A n c, .int .i64 N] w fun e w' => ∃ B k cc, e = .returned (.tuple #[.slice B k cc, .bool (rowB l N)]) ∧ k ≤ cc ∧ Below w.heap.size w w' ∧ (rowB l N = true → k = l.length ∧ nRd.Row 72 w' base B (l.map fv)) := by
  subst hn
  have HA := Lib.hid (fun W (hW : Below w.heap.size w W) => (show u64.Row t W b1 A l from hA.below hW))
  clear hA
  by_cases hN : (l.length : Int) = N
  rotate_left
  · have hne : ((l.length : Int) != N) = true := by simpa using hN
    have HB : Hid (rowB l N = false) := by simp [Hid, rowB, hN]
    clear hN
    go_enter Tryz.func58, Tryz.ntmps58
    go_wp2
    go_ret2
    exact ⟨none, 0, 0, by rw [HB.out]; rfl, Nat.le_refl _, Below.refl _ _, fun h => by rw [HB.out] at h; cases h⟩
  subst hN
  replace hl := hl rfl
  have HRB : Hid (rowB l (l.length : Int) = l.all fin) := by simp [Hid, rowB]
  rw [HRB.out]
  clear HRB
  have hne : ((l.length : Int) != (l.length : Int)) = false := by simp
  go_enter Tryz.func58, Tryz.ntmps58
  go_wp2
  clear hne
  go_loopw [6, 7] (fun v i wr => ∃ k : Nat, k ≤ l.length ∧ i = .int .i64 k ∧ Hid ((l.take k).all fin = true) ∧ Hid (nRd.Own 72 wr w.heap.size base v ((l.take k).map fv)) ∧ Hid (Below w.heap.size w wr)) (fun _ i _ => l.length - (intOf i).toNat)
  case atStart => exact ⟨0, by omega, rfl, rfl, by rw [Hid, List.take_zero]; exact Rd.Own.nil _ _ _ _ _, Below.refl _ _⟩
  case round =>
    obtain ⟨k, hk, rfl, hall, hO, hW⟩ := hrel
    have hlt0 : ((l.take k).map fv).length = k := by rw [List.length_map, List.length_take]; omega
    obtain ⟨vA, vc, rfl, hvc0, hvrow⟩ := hO.out.row
    rw [hlt0] at hO ⊢
    by_cases hlt : k < l.length
    · obtain ⟨a, x, rfl, hcx, hxb, hxe⟩ := u64at (HA.out wr hW.out) hlt
      have hi1 : (k : Int) < (l.length : Int) := by omega
      have hwsz := hW.out.size
      have hlen : (((l.take k).map fv).length + 1) * 40 ≤ 140737488355328 := by rw [hlt0]; omega
      have HT := Lib.hid (map_take_snoc hlt hxe.out)
      clear hlt0 hvrow hvc0
      by_cases hf : fin x = true
      · have HB := Lib.hid (of_fin x base wr hxb hf)
        have HF := Lib.hid hf
        clear hf
        go_wp2_with fail
        refine HB.out.mono ?_
        rintro e w2 ⟨cs, rfl, hr, hW2⟩
        have HR := Lib.hid hr
        obtain ⟨neg, m, ex, v, rfl, ⟨xs, A2, c2, hv, hc, hr2, ht, hval⟩, he, heb, hX⟩ := hr
        cases hv
        have HO2 := Lib.hid (hO.out.below hW2)
        have HW2 := Lib.hid (below_next hW.out hW2)
        have hwsz2 := HW2.out.size
        have HR2 := Lib.hid (fun o => nRd.below HR.out (below_new (Below.refl w2.heap.size w2) o))
        have HO3 := Lib.hid (fun o => HO2.out.below (below_new (Below.refl w2.heap.size w2) o))
        have HW3 := Lib.hid (fun o => below_new HW2.out o)
        clear hW2 hc hr2 ht hval he heb hX HB HR HO2
        go_wp2_with (at_builtin; refine own_append' nRd (w2.heap.size + 1) w.heap.size base (by simp) rfl _ _ 62 72 (.agg #[.bool false, .slice none 0 0, .int .i64 0]) 40 (by rfl) UN1 IN1 rfl (by decide) (by decide) _ ((l.take k).map fv) (fv x) _ (by rfl) (by rfl) (HR2.out _) (by decide) (HO3.out _) hbase (Nat.le_succ_of_le hwsz2) hlen ?_; intro v1 w1 hO1 hg1; have HRR := Lib.hid (And.intro hO1 (Rd.Own.below_of (HO3.out _) (HW3.out _) hg1)); clear hO1 hg1)
        go_roundw
        case rel => exact ⟨k + 1, by omega, by go_num, by rw [Hid, all_take_step hlt hxe.out, hall.out, HF.out]; rfl, by rw [HT.out]; exact HRR.out.1, HRR.out.2⟩
        case measure => simp [intOf]; omega
      · have hf' : fexp x = 2047 := by simpa [fin] using hf
        have HB := Lib.hid (of_bad x wr hxb hf')
        have HF : Hid (fin x = false) := by simpa [Hid] using hf
        clear hf hf'
        go_wp2_with fail
        refine HB.out.mono ?_
        rintro e w2 ⟨rfl, hW2⟩
        have HW2 := Lib.hid (below_next hW.out hW2)
        clear hW2 HB
        go_wp2
        go_ret2
        have hff : l.all fin = false := all_take_false hlt hxe.out HF.out
        exact ⟨none, 0, 0, by rw [hff]; rfl, Nat.le_refl _, below_new HW2.out _, fun h => by rw [hff] at h; cases h⟩
    · obtain rfl : k = l.length := by omega
      have hall2 : Hid (l.all fin = true) := by have := hall.out; rw [List.take_length] at this; exact this
      rw [List.take_length] at hvrow
      have HV := Lib.hid hvrow
      have hvc : l.length ≤ vc := by rw [List.length_map, List.take_length] at hvc0; exact hvc0
      clear hlt0 hvrow hvc0
      go_wp2
      go_ret2
      exact ⟨vA, l.length, vc, by rw [hall2.out]; rfl, hvc, hW.out, fun _ => ⟨rfl, HV.out⟩⟩
end Go.Proofs.YtcfejobdgiiihaaGreatDoor
