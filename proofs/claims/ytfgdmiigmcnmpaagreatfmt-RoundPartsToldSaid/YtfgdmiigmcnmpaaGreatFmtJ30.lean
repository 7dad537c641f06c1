/- Walks and plain laws of this seat's functions, part 30: R3c R5 R4 R6. -/
import Derived.Test.YtfgdmiigmcnmpaaGreatFmtJ03
import Derived.Test.YtfgdmiigmcnmpaaGreatFmtJ04
import Derived.Test.YtfgdmiigmcnmpaaGreatFmtJ06
import Derived.Test.YtfgdmiigmcnmpaaGreatFmtJ08
import Derived.Test.YtfgdmiigmcnmpaaGreatFmtJ10
set_option linter.unusedVariables false
set_option linter.unusedSimpArgs false
namespace Go.Proofs.YtfgdmiigmcnmpaaGreatFmt
open Go.RowKit

/-! ### numbers of the reference, their cells written out -/
def stepS (d : Int) : Int := if d = 1 then 1 else if d = 2 then -1 else 0
def numV (u : Nat) : Int := if fin u then fv u else 0
theorem fexp_bad {u : Nat} (h : fin u = false) : fexp u = 2047 := by unfold fin at h; simpa using h
/-- a number of the reference, its cells written out -/
def NumC (K : Nat) (w : World) (base : Nat) (X : Int) (neg : Bool) (A : Option Addr) (n c : Nat) (x : Int) : Prop := (numRd K).R w base X [.bool neg, .slice A n c, .int .i64 x]
theorem NumC.of {K : Nat} {w : World} {base : Nat} {X : Int} {cs : List Value} (h : (numRd K).R w base X cs) : ∃ (neg : Bool) (A : Option Addr) (n c : Nat) (x : Int), cs = [.bool neg, .slice A n c, .int .i64 x] ∧ NumC K w base X neg A n c x := by
  have h' := h
  obtain ⟨neg, m, x, v, rfl, ⟨xs, A, c, hv, _⟩, _⟩ := h'
  cases hv
  exact ⟨neg, A, _, c, x, rfl, h⟩
theorem NumC.set {K : Nat} {w : World} {base b : Nat} {X : Int} {neg : Bool} {A : Option Addr} {n c : Nat} {x : Int} {cs : List Value} (h : NumC K w base X neg A n c x) (hb : Blk w b 25 cs) (hbase : base ≤ b) (i : Nat) (u : Value) : NumC K (w.setCell ⟨b, i, none⟩ u) base X neg A n c x :=
  numRd_setNT h ⟨25, cs, by decide, hb⟩ hbase i u
theorem NumC.below {K : Nat} {w w' : World} {base : Nat} {X : Int} {neg : Bool} {A : Option Addr} {n c : Nat} {x : Int} (h : NumC K w base X neg A n c x) (hb : Below w.heap.size w w') : NumC K w' base X neg A n c x := (numRd K).below h hb
theorem num_zero (K : Nat) (w : World) (base : Nat) : NumC K w base 0 false none 0 0 0 :=
  ⟨false, 0, 0, .slice none 0 0, rfl, ⟨[], none, 0, rfl, Nat.le_refl _, Rd.Row.nil _ _ _ _ _, .inl rfl, rfl⟩, fun h => absurd rfl h, by decide, by rw [Nat.zero_mul]; rfl⟩
theorem of_calls (u base : Nat) (w : World) (hu : u < 18446744073709551616) :
    Calls Tryz.prog 26 #[.int .u64 u] w fun e w' => ∃ (neg : Bool) (A : Option Addr) (n c : Nat) (x : Int), e = .returned (.tuple #[.agg #[.bool neg, .slice A n c, .int .i64 x], .bool (fin u)]) ∧ NumC 1074 w' base (numV u) neg A n c x ∧ Below w.heap.size w w' := by
  unfold numV
  rcases h : fin u with _ | _
  · refine (of_bad u w hu (fexp_bad h)).mono ?_
    rintro e w' ⟨rfl, hW⟩
    exact ⟨false, none, 0, 0, 0, rfl, num_zero _ _ _, hW⟩
  · refine (of_fin u base w hu h).mono ?_
    rintro e w' ⟨cs, rfl, hR, hW⟩
    obtain ⟨neg, A, n, c, x, rfl, hN⟩ := NumC.of hR
    exact ⟨neg, A, n, c, x, rfl, hN, hW⟩
theorem three {w : World} {b t : Nat} {x0 x1 x2 : Value} (h : Blk w b t [x0, x1, x2]) : (w.cell? ⟨b, 0, none⟩ = some x0 ∧ w.cell? ⟨b, 1, none⟩ = some x1 ∧ w.cell? ⟨b, 2, none⟩ = some x2) ∧ (w.frozen? ⟨b, 0, none⟩ = false ∧ w.frozen? ⟨b, 1, none⟩ = false ∧ w.frozen? ⟨b, 2, none⟩ = false) :=
  ⟨⟨h.cell 0, h.cell 1, h.cell 2⟩, h.frozen 0, h.frozen 1, h.frozen 2⟩
theorem num_new (w : World) : Blk (w.alloc (.cells #[.bool false, .slice none 0 0, .int .i64 0] 25)) w.heap.size 25 [.bool false, .slice none 0 0, .int .i64 0] := Blk.new _ _ _
theorem NumC.raise {K : Nat} {w : World} {base : Nat} {X : Int} {neg : Bool} {A : Option Addr} {n c : Nat} {x : Int} (h : NumC K w base X neg A n c x) (J : Nat) : NumC (K + J) w base (X * ((2 ^ J : Nat) : Int)) neg A n c x := by
  obtain ⟨neg', m, e, v, hcs, hm, he, heb, hX⟩ := h
  refine ⟨neg', m, e, v, hcs, hm, fun h => by have := he h; omega, heb, ?_⟩
  by_cases h0 : m = 0
  · subst h0; rw [hX, Nat.zero_mul, Nat.zero_mul, sg_zero, Int.zero_mul]
  · have := he h0
    rw [hX, sg_pow, Nat.mul_assoc, ← Nat.pow_add]
    congr 3
    omega
/-- a number's three cells in a block: load, call -/
theorem num_blk (w : World) (neg : Bool) (A : Option Addr) (n c : Nat) (x : Int) : Blk (w.alloc (.cells #[.bool neg, .slice A n c, .int .i64 x] 25)) w.heap.size 25 [.bool neg, .slice A n c, .int .i64 x] := Blk.new _ _ _
end Go.Proofs.YtfgdmiigmcnmpaaGreatFmt

namespace Go.Proofs.YtfgdmiigmcnmpaaGreatFmt
open Go.RowKit


/-! ### ref2.Next, ref2.Scale -/
theorem round_c (d : Int) (K base L : Nat) (X : Int) (n1 : Bool) (A1 : Option Addr) (l1 c1 : Nat) (x1 : Int) (w : World) (hbase : base ≤ w.heap.size) (h : NumC K w base X n1 A1 l1 c1 x1) (hX : X.natAbs < 2 ^ L) (hL : L ≤ 536870912) (hK0 : 1074 < K) (hK : K ≤ 536870912) :
    Calls Tryz.prog 78 #[.int .i64 d, .agg #[.bool n1, .slice A1 l1 c1, .int .i64 x1]] w fun r w' => r = optRet (rndD d K X) ∧ Below w.heap.size w w' := roundd_calls d K base L X _ w hbase h hX hL hK0 hK
theorem plus_c2 (K base L : Nat) (X Y : Int) (n1 n2 : Bool) (A1 A2 : Option Addr) (l1 l2 c1 c2 : Nat) (x1 x2 : Int) (w : World) (hb : base ≤ w.heap.size) (hx : NumC K w base X n1 A1 l1 c1 x1) (hy : NumC K w base Y n2 A2 l2 c2 x2) (hX : X.natAbs < 2 ^ L) (hY : Y.natAbs < 2 ^ L) (hL : L ≤ 1073741824) (hK : K ≤ 1073741824) :
    Calls Tryz.prog 21 #[.agg #[.bool n1, .slice A1 l1 c1, .int .i64 x1], .agg #[.bool n2, .slice A2 l2 c2, .int .i64 x2]] w fun e w' => ∃ (neg : Bool) (A : Option Addr) (n c : Nat) (x : Int), e = .returned (.agg #[.bool neg, .slice A n c, .int .i64 x]) ∧ NumC K w' base (X + Y) neg A n c x ∧ Below w.heap.size w w' := by
  refine (plus_num K base L X Y _ _ w hb hx hy hX hY hL hK).mono ?_
  rintro e w' ⟨cs, rfl, hR, hW⟩
  obtain ⟨neg, A, n, c, x, rfl, hN⟩ := NumC.of hR
  exact ⟨neg, A, n, c, x, rfl, hN, hW⟩
theorem minus_c3 (K base L : Nat) (X Y : Int) (n1 n2 : Bool) (A1 A2 : Option Addr) (l1 l2 c1 c2 : Nat) (x1 x2 : Int) (w : World) (hb : base ≤ w.heap.size) (hx : NumC K w base X n1 A1 l1 c1 x1) (hy : NumC K w base Y n2 A2 l2 c2 x2) (hX : X.natAbs < 2 ^ L) (hY : Y.natAbs < 2 ^ L) (hL : L ≤ 1073741824) (hK : K ≤ 1073741824) :
    Calls Tryz.prog 36 #[.agg #[.bool n1, .slice A1 l1 c1, .int .i64 x1], .agg #[.bool n2, .slice A2 l2 c2, .int .i64 x2]] w fun e w' => ∃ (neg : Bool) (A : Option Addr) (n c : Nat) (x : Int), e = .returned (.agg #[.bool neg, .slice A n c, .int .i64 x]) ∧ NumC K w' base (X - Y) neg A n c x ∧ Below w.heap.size w w' := by
  refine (minus_num K base L X Y _ _ w hb hx hy hX hY hL hK).mono ?_
  rintro e w' ⟨cs, rfl, hR, hW⟩
  obtain ⟨neg, A, n, c, x, rfl, hN⟩ := NumC.of hR
  exact ⟨neg, A, n, c, x, rfl, hN, hW⟩
theorem moved_c3 (K K' base L : Nat) (m X : Int) (neg : Bool) (A : Option Addr) (n c : Nat) (x : Int) (w : World) (h : NumC K w base X neg A n c x) (hK : (K' : Int) = K - m) (hm : -1073741824 ≤ m ∧ m ≤ 1073741824) (hL : L ≤ 1073741824) (hX : X.natAbs < 2 ^ L) (hK1 : K ≤ 1073741824) (hK2 : K' ≤ 1073741824) :
    Calls Tryz.prog 81 #[.agg #[.bool neg, .slice A n c, .int .i64 x], .int .i64 m] w fun e w' => ∃ (neg : Bool) (A : Option Addr) (n c : Nat) (x : Int), e = .returned (.agg #[.bool neg, .slice A n c, .int .i64 x]) ∧ NumC K' w' base X neg A n c x ∧ Below w.heap.size w w' := by
  refine (moved_calls K K' base m X _ w h hK hm L hL hX hK1 hK2).mono ?_
  rintro e w' ⟨cs, rfl, hR, hW⟩
  obtain ⟨neg, A, n, c, x, rfl, hN⟩ := NumC.of hR
  exact ⟨neg, A, n, c, x, rfl, hN, hW⟩
theorem one_num {w : World} {base g : Nat} (h : Blk w g 56 [.int .u32 1]) (hg : base ≤ g) : NumC 1080 w base 1 false (some ⟨g, 0, none⟩) 1 1 (-1080) :=
  ⟨false, 1, -1080, _, rfl, (mRd_trim (zs := [1]) (n := 1) (c := 1) h (by intro d hd; simp at hd; subst hd; decide) rfl (Nat.le_refl _) rfl), fun _ => by decide, by decide, by decide⟩
end Go.Proofs.YtfgdmiigmcnmpaaGreatFmt

namespace Go.Proofs.YtfgdmiigmcnmpaaGreatFmt
open Go.RowKit

/-! ### Part: a whole quotient, bit by bit -/
set_option maxHeartbeats 1000000 in
theorem minus_own (A B : Option Addr) (n m ca cb t1 t2 base b2 b3 : Nat) (xs ys : List Nat) (w : World) (hn : xs.length = n) (hm : ys.length = m) (hA : u32.Row t1 w base A xs) (hB : u32.Row t2 w b3 B ys)
    (hl : m ≤ n) (hx : n ≤ 1099511627776) (hle : val B32 ys ≤ val B32 xs) :
    Calls Tryz.prog 54 #[.slice A n ca, .slice B m cb] w fun e w' => ∃ k c : Nat, e = .returned (.slice (some ⟨w.heap.size, 0, none⟩) k c) ∧ mRd.R w' b2 (val B32 xs - val B32 ys) [.slice (some ⟨w.heap.size, 0, none⟩) k c] ∧ Below w.heap.size w w' := by
  subst hn hm
  have hm := fun W => make32 (n := xs.length) W (by omega)
  have HLE := Lib.hid hle
  clear hle
  go_enter Tryz.func54, Tryz.ntmps54
  go_wp2
  clear hm
  go_loopw [6, 7] (fun c i wr => ∃ (k cc : Nat) (zs : List Nat), i = .int .i64 k ∧ c = .int .u64 cc ∧ cc ≤ 1 ∧ k ≤ xs.length ∧ Hid (MinusInv B32 xs ys k cc zs) ∧ Hid (Blk wr w.heap.size 56 (i32s zs)) ∧ Hid (Below w.heap.size w wr)) (fun _ i _ => xs.length - (intOf i).toNat)
  case atStart => exact ⟨0, 0, _, rfl, rfl, by omega, by omega, MinusInv.start _ (by decide) _ _, by rw [← made32]; exact Blk.new _ _ _, below_new (Below.refl _ _) _⟩
  case round =>
    obtain ⟨k, cc, zs, rfl, rfl, hc1, hk, hI, hZ, hW⟩ := hrel
    have hzl := hI.out.1
    by_cases hlt : k < xs.length
    · obtain ⟨a, x, rfl, hca, hxb, hx⟩ := u32at (hA.below hW.out) hlt
      obtain ⟨z, hz1, hz2, _, _⟩ := hZ.out.at32 (i := k) (by omega) hI.out.2.1
      by_cases hlt2 : k < ys.length
      · obtain ⟨b, y, rfl, hcb, hyb, hy⟩ := u32at (hB.below hW.out) hlt2
        by_cases hb : x < cc + y
        · go_wp2
          go_roundw
          case rel => exact ⟨k + 1, 1, _, by go_num, rfl, by omega, by omega, MinusInv.step (s := cc + y) (z := x + 4294967296 - (cc + y)) (by decide) hI.out hlt (by rw [hy.out]) (by simp only [B32]; omega) (by omega) (by rw [hx.out]; simp only [B32]; omega), hZ.out.set32 _ _ _ (by omega), hW.out.setCell (Nat.le_refl _) _⟩
          case measure => simp [intOf]; omega
        · go_wp2
          go_roundw
          case rel => exact ⟨k + 1, 0, _, by go_num, rfl, by omega, by omega, MinusInv.step (s := cc + y) (z := x - (cc + y)) (by decide) hI.out hlt (by rw [hy.out]) (by simp only [B32]; omega) (by omega) (by rw [hx.out]; omega), hZ.out.set32 _ _ _ (by omega), hW.out.setCell (Nat.le_refl _) _⟩
          case measure => simp [intOf]; omega
      · by_cases hb : x < cc
        · go_wp2
          go_roundw
          case rel => exact ⟨k + 1, 1, _, by go_num, rfl, by omega, by omega, MinusInv.step (s := cc) (z := x + 4294967296 - cc) (by decide) hI.out hlt (by rw [getD_ge (by omega)]; rfl) (by simp only [B32]; omega) (by omega) (by rw [hx.out]; simp only [B32]; omega), hZ.out.set32 _ _ _ (by omega), hW.out.setCell (Nat.le_refl _) _⟩
          case measure => simp [intOf]; omega
        · go_wp2
          go_roundw
          case rel => exact ⟨k + 1, 0, _, by go_num, rfl, by omega, by omega, MinusInv.step (s := cc) (z := x - cc) (by decide) hI.out hlt (by rw [getD_ge (by omega)]; rfl) (by simp only [B32]; omega) (by omega) (by rw [hx.out]; omega), hZ.out.set32 _ _ _ (by omega), hW.out.setCell (Nat.le_refl _) _⟩
          case measure => simp [intOf]; omega
    · obtain rfl : k = xs.length := by omega
      go_wp2_with fail
      refine (trim_calls _ _ _ 56 0 zs _ hzl (u32all hZ.out hI.out.2.1) (by omega) (Nat.le_refl _)).mono ?_
      rintro e w' ⟨rfl, rfl⟩
      have HH := Lib.hid (mRd_trim (base := b2) hZ.out hI.out.2.1 hzl (Nat.le_refl _) (hI.out.done (by decide) hl HLE.out))
      go_wp2
      go_ret
      exact ⟨_, _, rfl, HH.out, hW.out⟩

theorem row_far {t : Nat} {w : World} {base g : Nat} {A : Option Addr} {xs : List Nat} (h : u32.Row t w base A xs) (hne : ∀ a, A = some a → a.block ≠ g) (i : Nat) (u : Value) : u32.Row t (w.setCell ⟨g, i, none⟩ u) base A xs := by
  intro k x hk
  obtain ⟨a, cs, ha, hok, hlt, hr, hc⟩ := h k x hk
  have hs : (w.setCell ⟨g, i, none⟩ u).heap[a.block]? = w.heap[a.block]? := Below.heap_setCell w ⟨g, i, none⟩ u a.block (hne a ha)
  refine ⟨a, cs, ha, hok.imp id (fun ⟨c, hh⟩ => ⟨c, hs.trans hh⟩), ?_, hr, fun j u' hj => ?_⟩
  · have := ((Below.refl 0 w).setCell (p := ⟨g, i, none⟩) (Nat.zero_le _) u).size
    omega
  · exact (World.cell?_of_block (by rw [Addr.add_block]; exact hs)).trans (hc j u' hj)
/-- a trimmed row away from the block g -/
def Afar (g : Nat) (A : Option Addr) : Prop := ∀ a, A = some a → a.block ≠ g
theorem mRd_far {w : World} {base g m n c : Nat} {A : Option Addr} (h : mRd.R w base m [.slice A n c]) (hne : Afar g A) (i : Nat) (u : Value) : mRd.R (w.setCell ⟨g, i, none⟩ u) base m [.slice A n c] := by
  obtain ⟨xs, A', c', hv, h1, h2, h3, h4⟩ := h
  cases hv
  exact ⟨xs, A, c, rfl, h1, row_far h2 hne i u, h3, h4⟩
theorem mRd_old {w : World} {base g m n c : Nat} {A : Option Addr} (h : mRd.R w base m [.slice A n c]) (h0 : m ≠ 0) (hg : w.heap.size ≤ g) : Afar g A := by
  obtain ⟨xs, A', c', hv, h1, h2, h3, h4⟩ := h
  cases hv
  have hx : xs ≠ [] := by rintro rfl; exact h0 (h4.symm)
  obtain ⟨x, hx⟩ : ∃ x, xs[0]? = some x := by
    cases xs with
    | nil => exact absurd rfl hx
    | cons a b => exact ⟨a, rfl⟩
  obtain ⟨a, cs, ha, hok, hlt, hr, hc⟩ := h2 0 x hx
  intro a' ha' e
  rw [ha] at ha'
  obtain rfl := Option.some.inj ha'
  omega
theorem bit_word {k t : Nat} {zs : List Nat} (hk : k < zs.length) (hz : ∀ d ∈ zs, d < B32) (ht : t < 32) (h : val B32 zs % 2 ^ (32 * k + t + 1) = 0) : zs.getD k 0 % 2 ^ (t + 1) = 0 := by
  obtain ⟨p, x, q, rfl, rfl⟩ := split_at hk
  have e2 : (p ++ x :: q).getD p.length 0 = x := by simp
  rw [e2]
  have hv : val B32 (p ++ x :: q) = val B32 p + B32 ^ p.length * (x + B32 * val B32 q) := by rw [val_append]; rfl
  have hp : val B32 p < B32 ^ p.length := val_lt (by decide) p (fun d hd => hz d (by simp [hd]))
  have eB : B32 ^ p.length = 2 ^ (32 * p.length) := by rw [show B32 = 2 ^ 32 from rfl, ← Nat.pow_mul]
  have d1 := Nat.dvd_of_mod_eq_zero h
  have d2 : 2 ^ (32 * p.length) ∣ val B32 (p ++ x :: q) := Nat.dvd_trans (Nat.pow_dvd_pow 2 (by omega)) d1
  rw [hv, eB] at d2
  have d3 : 2 ^ (32 * p.length) ∣ val B32 p := (Nat.dvd_add_left (Nat.dvd_mul_right _ _)).1 d2
  rw [eB] at hp
  have hp0 : val B32 p = 0 := Nat.eq_zero_of_dvd_of_lt d3 hp
  rw [hv, hp0, Nat.zero_add, eB, show 32 * p.length + t + 1 = 32 * p.length + (t + 1) from by omega, Nat.pow_add] at d1
  have d4 : 2 ^ (t + 1) ∣ x + B32 * val B32 q := Nat.dvd_of_mul_dvd_mul_left (Nat.pow_pos (by decide)) d1
  have d5 : 2 ^ (t + 1) ∣ B32 * val B32 q := Nat.dvd_trans (Nat.pow_dvd_pow 2 (by omega : t + 1 ≤ 32)) (Nat.dvd_mul_right _ _)
  exact Nat.mod_eq_zero_of_dvd ((Nat.dvd_add_left d5).1 d4)
/-- the quotient so far (zs), and what is left (r), the bits from j on being decided -/
structure PInv (N ma mb j r : Nat) (zs : List Nat) : Prop where
  len : zs.length = N
  all : ∀ d ∈ zs, d < B32
  eq : ma = mb * val B32 zs + r
  low : val B32 zs % 2 ^ j = 0
  lt : r < mb * 2 ^ j
theorem PInv.down {N ma mb j r : Nat} {zs : List Nat} (h : PInv N ma mb (j + 1) r zs) (hr : r < mb * 2 ^ j) : PInv N ma mb j r zs := by
  refine ⟨h.len, h.all, h.eq, ?_, hr⟩
  have d := Nat.dvd_of_mod_eq_zero h.low
  exact Nat.mod_eq_zero_of_dvd (Nat.dvd_trans (Nat.pow_dvd_pow 2 (by omega)) d)
theorem PInv.bit {N ma mb j r x : Nat} {zs : List Nat} (h : PInv N ma mb (j + 1) r zs) (hr : mb * 2 ^ j ≤ r) (hj : j / 32 < N) (hx : zs.getD (j / 32) 0 = x) : x % 2 ^ (j % 32 + 1) = 0 ∧ x + 2 ^ (j % 32) < 4294967296 ∧ PInv N ma mb j (r - mb * 2 ^ j) (zs.set (j / 32) (x + 2 ^ (j % 32))) := by
  have hk : j / 32 < zs.length := by rw [h.len]; exact hj
  have ht : j % 32 < 32 := Nat.mod_lt _ (by decide)
  have e1 : 32 * (j / 32) + j % 32 + 1 = j + 1 := by omega
  have hb := bit_word hk h.all ht (by rw [e1]; exact h.low)
  rw [hx] at hb
  have hxB : x < 2 ^ 32 := by
    have hall := h.all
    obtain ⟨p, y, q, hpq, hp⟩ := split_at hk
    rw [hpq] at hx hall
    have e2 : (p ++ y :: q).getD (j / 32) 0 = y := by rw [← hp]; simp
    rw [e2] at hx
    rw [← hx]
    exact hall y (by simp)
  have hs : x + 2 ^ (j % 32) < 4294967296 := by
    obtain ⟨c, hc⟩ := Nat.dvd_of_mod_eq_zero hb
    have e3 : 2 ^ 32 = 2 ^ (j % 32 + 1) * 2 ^ (31 - j % 32) := by rw [← Nat.pow_add]; congr 1; omega
    have hc2 : c < 2 ^ (31 - j % 32) := by
      rw [hc, e3] at hxB
      exact Nat.lt_of_mul_lt_mul_left hxB
    have h4 : 2 ^ (j % 32 + 1) * (c + 1) ≤ 2 ^ 32 := by rw [e3]; exact Nat.mul_le_mul_left _ hc2
    rw [Nat.mul_add, ← hc, Nat.mul_one, Nat.pow_succ] at h4
    have hp : 0 < 2 ^ (j % 32) := Nat.pow_pos (by decide)
    have : (2 : Nat) ^ 32 = 4294967296 := by decide
    omega
  have hv := val_set_any B32 (x + 2 ^ (j % 32)) hk
  rw [hx] at hv
  have eB : B32 ^ (j / 32) * 2 ^ (j % 32) = 2 ^ j := by
    rw [show B32 = 2 ^ 32 from rfl, ← Nat.pow_mul, ← Nat.pow_add]
    congr 1; omega
  rw [Nat.mul_add, eB] at hv
  have hv2 : val B32 (zs.set (j / 32) (x + 2 ^ (j % 32))) = val B32 zs + 2 ^ j := by omega
  refine ⟨hb, hs, by rw [List.length_set]; exact h.len, ?_, ?_, ?_, ?_⟩
  · intro d hd
    rcases List.mem_or_eq_of_mem_set hd with h1 | h1
    · exact h.all d h1
    · rw [h1]; exact hs
  · rw [hv2, Nat.mul_add]
    have := h.eq
    omega
  · rw [hv2]
    have d := Nat.dvd_of_mod_eq_zero h.low
    have d1 : 2 ^ j ∣ val B32 zs := Nat.dvd_trans (Nat.pow_dvd_pow 2 (by omega)) d
    exact Nat.mod_eq_zero_of_dvd (Nat.dvd_add d1 (Nat.dvd_refl _))
  · have := h.lt
    rw [Nat.pow_succ, ← Nat.mul_assoc, Nat.mul_comm _ 2] at this
    omega
theorem PInv.start {N n ma mb : Nat} (h : ma < mb * 2 ^ (n + 1)) : PInv N ma mb (n + 1) ma (List.replicate N 0) :=
  ⟨List.length_replicate, fun d hd => by rw [List.eq_of_mem_replicate hd]; decide, by rw [val_replicate, Nat.mul_zero, Nat.zero_add], by rw [val_replicate, Nat.zero_mod], h⟩
theorem PInv.done {N ma mb r : Nat} {zs : List Nat} (h : PInv N ma mb 0 r zs) : val B32 zs = ma / mb ∧ r = ma % mb := by
  have hl := h.lt
  rw [Nat.pow_zero, Nat.mul_one] at hl
  have e := h.eq
  constructor
  · rw [e, Nat.mul_comm, Nat.add_comm, Nat.add_mul_div_right _ _ (by omega), Nat.div_eq_of_lt hl, Nat.zero_add]
  · rw [e, Nat.mul_add_mod, Nat.mod_eq_of_lt hl]
theorem bl_quot {ma mb n : Nat} (hb : mb ≠ 0) (h : bl ma = n + bl mb) : ma < mb * 2 ^ (n + 1) := by
  have h1 := bl_lt ma
  have h2 := bl_le hb
  rw [h] at h1
  have hp := bl_pos hb
  refine Nat.lt_of_lt_of_le h1 ?_
  have e : 2 ^ (n + bl mb) = 2 ^ (bl mb - 1) * 2 ^ (n + 1) := by rw [← Nat.pow_add]; congr 1; omega
  rw [e]
  exact Nat.mul_le_mul_right _ h2
theorem bl_less {ma mb : Nat} (h : bl ma < bl mb) : ma < mb := by
  have hb : mb ≠ 0 := by intro h0; subst h0; rw [bl_zero] at h; omega
  have h1 := bl_lt ma
  have h2 := bl_le hb
  exact Nat.lt_of_lt_of_le h1 (Nat.le_trans (Nat.pow_le_pow_right (by decide) (by omega)) h2)
end Go.Proofs.YtfgdmiigmcnmpaaGreatFmt

namespace Go.Proofs.YtfgdmiigmcnmpaaGreatFmt
open Go.RowKit

/-! ### Part, the walk -/
theorem or_bit {y t : Nat} (ht : t < 32) (hy : y % 2 ^ (t + 1) = 0) (hs : y + 2 ^ t < 4294967296) : bits .or .u32 (y : Int) ((2 : Int) ^ t % 4294967296) = ((y + 2 ^ t : Nat) : Int) := by
  have hp : 2 ^ t < 2 ^ (t + 1) := Nat.pow_lt_pow_right (by decide) (by omega)
  have hl : 2 ^ t < 4294967296 := by omega
  have e : (2 : Int) ^ t % 4294967296 = ((2 ^ t : Nat) : Int) := by
    have : (2 : Int) ^ t = ((2 ^ t : Nat) : Int) := by simp [Int.natCast_pow]
    rw [this]; omega
  rw [e, u32_or_nat _ _ (by omega) hl, Nat.or_comm, or_add_low hp hy, Nat.add_comm]
set_option maxHeartbeats 4000000 in
set_option maxRecDepth 100000 in
theorem part_calls (K base L : Nat) (ex ey : Int) (mx my : Nat) (vx vy : Value) (w : World) (hbase : base ≤ w.heap.size) (hx : mRd.R w base mx [vx]) (hy : mRd.R w base my [vy]) (h0x : mx ≠ 0) (h0y : my ≠ 0)
    (hex : 0 ≤ ex + K) (hey : 0 ≤ ey + K) (hbx : -1099511627776 ≤ ex ∧ ex ≤ 1099511627776) (hby : -1099511627776 ≤ ey ∧ ey ≤ 1099511627776)
    (hX : (sg false (mx * 2 ^ (ex + K).toNat)).natAbs < 2 ^ L) (hY : (sg false (my * 2 ^ (ey + K).toNat)).natAbs < 2 ^ L) (hL : L ≤ 1073741824) (A B : Nat) (hA : mx * 2 ^ (ex + K).toNat = A) (hB : my * 2 ^ (ey + K).toNat = B) :
    Calls Tryz.prog 106 #[.agg #[.bool false, vx, .int .i64 ex], .agg #[.bool false, vy, .int .i64 ey]] w fun r w' =>
      ∃ v', r = .returned (.tuple #[.agg #[.bool false, v', .int .i64 0], .bool (restB (A % B))]) ∧ mRd.R w' base (A / B) [v'] ∧ Below w.heap.size w w' := by
  have HX := Lib.hid hx
  have HY := Lib.hid hy
  have HLV := Lib.hid (fun (W : World) (hW : Below w.heap.size w W) => level_calls K base L ex ey mx my false false vx vy W (mRd.below hx hW) (mRd.below hy hW) (fun _ => hex) (fun _ => hey) hbx hby hX hY hL)
  have HP := Lib.hid (And.intro h0x (And.intro h0y (And.intro hX (And.intro hY hL))))
  have hW0 : Below w.heap.size w (((w.alloc (.cells #[.bool false, vx, .int .i64 ex] 25)).alloc (.cells #[.bool false, vy, .int .i64 ey] 25)).alloc (.cells #[.bool false, .slice none 0 0, .int .i64 0] 25)) := below_new (below_new (below_new (Below.refl _ _) _) _) _
  have HW0 := Lib.hid hW0
  have H40 : Hid (Blk (((w.alloc (.cells #[.bool false, vx, .int .i64 ex] 25)).alloc (.cells #[.bool false, vy, .int .i64 ey] 25)).alloc (.cells #[.bool false, .slice none 0 0, .int .i64 0] 25)) (w.heap.size + 1 + 1) 25 [.bool false, .slice none 0 0, .int .i64 0]) := by
    have := num_new ((w.alloc (.cells #[.bool false, vx, .int .i64 ex] 25)).alloc (.cells #[.bool false, vy, .int .i64 ey] 25))
    rw [Hid]
    simpa using this
  obtain ⟨xs0, A0, ca0, hv0, _⟩ := hx
  cases hv0
  obtain ⟨ys0, B0, cb0, hv1, _⟩ := hy
  cases hv1
  have HB := Lib.hid hbase
  clear hex hey hbx hby hX hY hL h0x h0y hW0 hbase
  go_enter Tryz.func106, Tryz.ntmps106
  go_wp2_with fail
  refine (HLV.out _ HW0.out).mono ?_
  rintro r w1 ⟨va, vb, e, rfl, hLev, hW1⟩
  obtain ⟨ma, mb, hma, hmb, zma, zmb, hval⟩ := hLev
  obtain ⟨he, heb, eX, eY⟩ := hval HP.out.1 HP.out.2.1
  obtain ⟨j0, hj0⟩ : ∃ j, (e + K).toNat = j := ⟨_, rfl⟩
  have hP3 := HP.out.2.2
  rw [hA, hB] at hP3
  rw [hA, hj0] at eX
  rw [hB, hj0] at eY
  have eX' : A = ma * 2 ^ j0 := by
    have h : (A : Int) = ((ma * 2 ^ j0 : Nat) : Int) := eX
    exact Int.ofNat.inj h
  have eY' : B = mb * 2 ^ j0 := by
    have h : (B : Int) = ((mb * 2 ^ j0 : Nat) : Int) := eY
    exact Int.ofNat.inj h
  have hma0 : ma ≠ 0 := fun h => HP.out.1 (zma.1 h)
  have hmb0 : mb ≠ 0 := fun h => HP.out.2.1 (zmb.1 h)
  have hmaL : ma < 2 ^ L := man_lt (neg := false) (k := j0) (by rw [← eX']; exact hP3.1)
  have hmbL : mb < 2 ^ L := man_lt (neg := false) (k := j0) (by rw [← eY']; exact hP3.2.1)
  have hL := hP3.2.2
  have hQ : A / B = ma / mb ∧ restB (A % B) = restB (ma % mb) := by
    have hp : 0 < 2 ^ j0 := Nat.pow_pos (by decide)
    rw [eX', eY']
    exact ⟨Nat.mul_div_mul_right _ _ hp, by
      rw [Nat.mul_mod_mul_right]
      unfold restB
      by_cases h : ma % mb = 0
      · rw [h, Nat.zero_mul]
      · rw [decide_eq_true h, decide_eq_true (Nat.mul_ne_zero h (by omega))]⟩
  have HQ := Lib.hid hQ
  have HW1 := Lib.hid (HW0.out.trans (hW1.mono HW0.out.size))
  have H4 := Lib.hid (H40.out.below' hW1)
  have hbla : bl ma ≤ L := bl_le_of_lt hmaL
  have hblb : bl mb ≤ L := bl_le_of_lt hmbL
  have HMA := Lib.hid hma
  have HMB := Lib.hid hmb
  obtain ⟨xs, A1, c1, hv, hc1, hr1, ht1, hv1⟩ := hma
  cases hv
  obtain ⟨ys, B1, c2, hv, hc2, hr2, ht2, hv2⟩ := hmb
  cases hv
  have hxl := man_len ht1 hv1 hmaL
  have hyl := man_len ht2 hv2 hmbL
  have HLX := Lib.hid (fun W (hW : Below w1.heap.size w1 W) => length_calls A1 xs.length c1 56 base xs W rfl (hr1.below hW) (by omega) ht1)
  have HLY := Lib.hid (fun W (hW : Below w1.heap.size w1 W) => length_calls B1 ys.length c2 56 base ys W rfl (hr2.below hW) (by omega) ht2)
  have HLF := Lib.hid (fun (i : Nat) (hi : i ≤ 1073741824) W (hW : Below w1.heap.size w1 W) => left_calls B1 ys.length c2 56 base base i ys W rfl (hr2.below hW) (by omega) (by omega))
  rw [hv1] at HLX
  rw [hv2] at HLY HLF
  have hxn : ((xs.length : Int) == 0) = false := by
    have := ht1.nil_iff (B := B32) (by decide)
    rw [hv1] at this
    simp
    exact fun h => hma0 (this.1 (by rw [h]; rfl))
  have HV := Lib.hid (And.intro hv1 hv2)
  have HXL := Lib.hid hxl
  have HNZ := Lib.hid (And.intro hma0 hmb0)
  have HML := Lib.hid (And.intro hmaL (And.intro hmbL hL))
  clear hW1 hval zma zmb he heb eX eY eX' eY' hQ hP3 hA hB hr1 hr2 ht1 ht2 hv1 hv2 hma0 hmb0 hmaL hmbL hxl hyl hj0
  have hLL : L ≤ 1073741824 := hL
  clear hL
  go_wp2_with fail
  refine (HLX.out _ (Below.refl _ _)).mono ?_
  rintro r w' ⟨rfl, rfl⟩
  go_wp2_with fail
  refine (HLY.out _ (Below.refl _ _)).mono ?_
  rintro r w' ⟨rfl, rfl⟩
  obtain ⟨la, hla⟩ : ∃ l, bl ma = l := ⟨_, rfl⟩
  obtain ⟨lb, hlb⟩ : ∃ l, bl mb = l := ⟨_, rfl⟩
  rw [hla] at hbla ⊢
  rw [hlb] at hblb ⊢
  have hwr : IntKind.i64.wrap ((la : Int) - (lb : Int)) = (la : Int) - (lb : Int) := IntWalk.i64_in _ (by omega)
  rcases Nat.lt_or_ge la lb with hlt | hge
  · have hneg : (la : Int) - (lb : Int) < 0 := by omega
    have hq : ma / mb = 0 ∧ restB (ma % mb) = true := by
      have h := bl_less (ma := ma) (mb := mb) (by omega)
      rw [Nat.div_eq_of_lt h, Nat.mod_eq_of_lt h]
      exact ⟨rfl, decide_eq_true HNZ.out.1⟩
    have HQ0 : Hid (A / B = 0 ∧ restB (A % B) = true) := ⟨HQ.out.1.trans hq.1, HQ.out.2.trans hq.2⟩
    have hpos : (0 : Int) < (xs.length : Int) := by
      have : (xs.length : Int) ≠ 0 := by simpa using hxn
      omega
    have hposN : 0 < xs.length := by omega
    clear hq
    obtain ⟨⟨r0, r1, r2⟩, t0, t1, t2⟩ := three H4.out
    go_wp2_with fail
    refine bodyPost_ret (v := .tuple #[.agg #[.bool false, .slice none 0 0, .int .i64 0], .bool true]) (by simp [results, Tryz.results106, go_sem, r0, r1, r2, hposN]) rfl ⟨_, by rw [HQ0.out.2], by rw [HQ0.out.1]; exact mRd_nil _ _ _ _, ?_⟩
    repeat (first | exact HW1.out | refine Below.setCell ?_ (by simp <;> omega) _)
  · obtain ⟨n, rfl⟩ : ∃ n, la = n + lb := ⟨la - lb, by omega⟩
    have hn : ((n + lb : Nat) : Int) - (lb : Int) = (n : Int) := by omega
    rw [hn] at hwr
    have hnn : ¬ (n : Int) < 0 := by omega
    have HQL := Lib.hid (bl_quot HNZ.out.2 (n := n) (by rw [hla, hlb]))
    have hm := fun W => make32 (n := n / 32 + 1) W (by omega)
    simp only [Int.natCast_add, Int.cast_ofNat_Int, Int.natCast_ediv] at hm
    clear hla hlb
    go_wp2_with fail
    clear hm
    have HH : Hid (w.heap.size + 1 + 1 < w1.heap.size) := H4.out.lt
    go_loopw [6, 11] (fun va i wr => ∃ (r j : Nat) (zs : List Nat), i = .int .i64 ((j : Int) - 1) ∧ j ≤ n + 1 ∧ Hid (PInv (n / 32 + 1) ma mb j r zs) ∧ Hid (∃ A k c, va = .slice A k c ∧ mRd.R wr base r [.slice A k c] ∧ Afar w1.heap.size A) ∧ Hid (Blk wr w1.heap.size 56 (i32s zs)) ∧ Hid (Blk wr (w.heap.size + 1 + 1) 25 [.bool false, .slice none 0 0, .int .i64 0]) ∧ Hid (Below w1.heap.size w1 wr)) (fun _ i _ => (intOf i + 1).toNat)
    case atStart =>
      refine ⟨ma, n + 1, List.replicate (n / 32 + 1) 0, by go_num, Nat.le_refl _, PInv.start HQL.out, ⟨_, _, _, rfl, mRd.below HMA.out (below_new (Below.refl _ _) _), mRd_old HMA.out HNZ.out.1 (Nat.le_refl _)⟩, ?_, H4.out.below' (below_new (Below.refl _ _) _), below_new (Below.refl _ _) _⟩
      rw [Hid, ← made32]; exact Blk.new _ _ _
    case round =>
      obtain ⟨r, j, zs, rfl, hj, hI, hR, hZ, h4, hWr⟩ := hrel
      rcases Nat.eq_zero_or_pos j with h0 | h0
      · subst h0
        obtain ⟨d1, d2⟩ := hI.out.done
        have HD : Hid (val B32 zs = A / B ∧ restB (A % B) = restB r) := ⟨d1.trans HQ.out.1.symm, by rw [HQ.out.2, d2]⟩
        have hzl := hI.out.len
        have HLT := Lib.hid (u32all (t := 56) (base := 0) hZ.out hI.out.all)
        have HBR := Lib.hid (HW1.out.trans (hWr.out.mono HW1.out.size))
        obtain ⟨A2, k3, c3, rfl, hRm, hfar⟩ := hR.out
        obtain ⟨rs, A2', c3', hv, hc3, hr3, ht3, hv3⟩ := hRm
        cases hv
        have hz3 := ht3.nil_iff (B := B32) (by decide)
        rw [hv3] at hz3
        obtain ⟨⟨r0, r1, r2⟩, t0, t1, t2⟩ := three h4.out
        have hn1 : ¬ ((0 : Nat) : Int) - 1 ≥ 0 := by decide
        have hne : w1.heap.size ≠ w.heap.size + 1 + 1 := by have := HH.out; omega
        have HZA := Lib.hid hI.out.all
        clear d1 d2 hI ht3 hr3
        have hrb : restB r = decide ((0 : Int) < (rs.length : Int)) := by
          unfold restB
          by_cases h : r = 0
          · have := hz3.2 h
            rw [h, this]; rfl
          · have : rs.length ≠ 0 := fun h' => h (hz3.1 h')
            rw [decide_eq_true h, decide_eq_true (by omega)]
        go_wp2_with fail
        refine (trim_calls _ _ _ 56 0 zs _ hzl HLT.out (by omega) (Nat.le_refl _)).mono ?_
        rintro e w' ⟨rfl, rfl⟩
        go_wp2_with fail
        refine bodyPost_ret (v := .tuple #[.agg #[.bool false, .slice (some ⟨w1.heap.size, 0, none⟩) (trimLen zs (n / 32 + 1)) (n / 32 + 1), .int .i64 0], .bool (decide ((0 : Int) < (rs.length : Int)))]) (by simp [results, Tryz.results106, go_sem, r0, r1, r2]) rfl ⟨_, by rw [HD.out.2, hrb], ?_, ?_⟩
        · refine mRd_trim (zs := zs) ?_ HZA.out hzl (Nat.le_refl _) HD.out.1
          repeat (first | exact hZ.out | refine Blk.far ?_ (by simp <;> omega) _)
        · repeat (first | exact HBR.out | refine Below.setCell ?_ (by simp <;> omega) _)
      · obtain ⟨i, rfl⟩ : ∃ i, j = i + 1 := ⟨j - 1, by omega⟩
        have ei : ((i + 1 : Nat) : Int) - 1 = (i : Int) := by omega
        rw [ei]
        have hi0 : (0 : Int) ≤ (i : Int) := by omega
        go_wp2_with fail
        refine (HLF.out i (by omega) _ hWr.out).mono ?_
        rintro e w2 ⟨vc, rfl, hmc, hW2⟩
        have HC2 := Lib.hid hmc
        obtain ⟨cs, A3, c4, hv, hc4, hr4, ht4, hv4⟩ := hmc
        cases hv
        obtain ⟨A2, k3, c3, rfl, hRm, hfar⟩ := hR.out
        have HRM := Lib.hid hRm
        obtain ⟨rs, A2', c3', hv, hc3, hr3, ht3, hv3⟩ := hRm
        cases hv
        have hrL : r < 2 ^ L := by
          have h := hI.out.eq
          have := HML.out.1
          omega
        have hcL : mb * 2 ^ i < 2 ^ (L + L) := by
          have h1 := HML.out.2.1
          rw [Nat.pow_add]
          refine Nat.lt_of_lt_of_le (Nat.mul_lt_mul_of_pos_right h1 (Nat.pow_pos (by decide))) (Nat.mul_le_mul_left _ (Nat.pow_le_pow_right (by decide) (by omega)))
        have hrl := man_len ht3 hv3 hrL
        have hcl := man_len ht4 hv4 hcL
        have HCM := Lib.hid (cmp_calls A2 A3 rs.length cs.length c3 c4 56 56 base base rs cs w2 rfl rfl (hr3.below hW2) hr4 (by omega) (by omega) ht3 ht4)
        rw [hv3, hv4] at HCM
        have H5 : Hid (Blk w2 w1.heap.size 56 (i32s zs) ∧ Blk w2 (w.heap.size + 1 + 1) 25 [.bool false, .slice none 0 0, .int .i64 0] ∧ Below w1.heap.size w1 w2 ∧ mRd.R w2 base r [.slice A2 rs.length c3]) := ⟨hZ.out.below' hW2, h4.out.below' hW2, hWr.out.trans (hW2.mono hWr.out.size), mRd.below HRM.out hW2⟩
        rcases Nat.lt_or_ge r (mb * 2 ^ i) with hlt | hge
        · rw [cmpN_lt hlt] at HCM
          have HI2 := Lib.hid (hI.out.down hlt)
          have HFAR := Lib.hid hfar
          clear hI hR hZ h4 hWr hr3 hr4 ht3 ht4 hv3 hv4 hrL hcL hrl hcl hW2 HLF
          go_wp2_with fail
          refine HCM.out.mono ?_
          rintro e w3 ⟨rfl, q, rfl⟩
          go_wp2_with fail
          have hd := below_drewN (Below.refl w2.heap.size w2) q
          exact ⟨⟨r, i, zs, rfl, by omega, HI2.out, ⟨_, _, _, rfl, mRd.below H5.out.2.2.2 hd, HFAR.out⟩, H5.out.1.below' hd, H5.out.2.1.below' hd, below_drewN H5.out.2.2.1 q⟩, by simp [intOf] <;> omega⟩
        · have hge0 : ¬ cmpN r (mb * 2 ^ i) < 0 := by
            rcases Nat.lt_or_eq_of_le hge with h | h
            · rw [cmpN_gt h]; decide
            · rw [← h, cmpN_eq]; decide
          obtain ⟨cr, hcr⟩ : ∃ c, cmpN r (mb * 2 ^ i) = c := ⟨_, rfl⟩
          rw [hcr] at HCM hge0
          have hge1 : (0 : Int) ≤ cr := by omega
          have hll : cs.length ≤ rs.length := by
            rcases Nat.lt_or_ge rs.length cs.length with h | h
            · have := val_lt_of_len (B := B32) (by decide) (u32bd hr3) ht4 h
              rw [hv3, hv4] at this
              omega
            · exact h
          have HMN := Lib.hid (fun W (hW : Below w2.heap.size w2 W) => minus_own A2 A3 rs.length cs.length c3 c4 56 56 base base base rs cs W rfl rfl ((hr3.below hW2).below hW) (hr4.below hW) hll (by omega) (by rw [hv3, hv4]; exact hge))
          rw [hv3, hv4] at HMN
          have hk : i / 32 < zs.length := by rw [hI.out.len]; omega
          have hkN : i / 32 < n / 32 + 1 := by omega
          obtain ⟨b1, b2, HI3⟩ := hI.out.bit hge hkN rfl
          have HI4 := Lib.hid HI3
          have HXX := Lib.hid (And.intro b1 b2)
          have hi3 : (i : Int) / 32 < ((n / 32 + 1 : Nat) : Int) := by omega
          have HI0 := Lib.hid (And.intro hI.out.all hI.out.len)
          clear hI hR hZ h4 hWr hr3 hr4 ht3 ht4 hv3 hv4 hrL hcL hrl hcl hW2 HLF hge HI3 b1 b2 hcr
          go_wp2_with fail
          refine HCM.out.mono ?_
          rintro e w3 ⟨rfl, q, rfl⟩
          go_wp2_with fail
          refine (HMN.out _ (below_drewN (Below.refl w2.heap.size w2) q)).mono ?_
          rintro e w4 ⟨k9, c9, rfl, hm2, hW4⟩
          have hs25 : w1.heap.size < w2.heap.size := H5.out.1.lt
          have hb4 : Below w2.heap.size w2 w4 := Below.trans (below_drewN (Below.refl w2.heap.size w2) q) hW4
          have H6 : Hid (Blk w4 w1.heap.size 56 (i32s zs) ∧ Blk w4 (w.heap.size + 1 + 1) 25 [.bool false, .slice none 0 0, .int .i64 0] ∧ Below w1.heap.size w1 w4 ∧ mRd.R w4 base (r - mb * 2 ^ i) [.slice (some ⟨(w2.drewN q).heap.size, 0, none⟩) k9 c9]) := ⟨H5.out.1.below' hb4, H5.out.2.1.below' hb4, H5.out.2.2.1.trans (hb4.mono H5.out.2.2.1.size), hm2⟩
          obtain ⟨y, hy1, hy2, hyb, hye⟩ := (H6.out.1).at32 (i := i / 32) hk HI0.out.1
          have HI5 : Hid (PInv (n / 32 + 1) ma mb i (r - mb * 2 ^ i) (zs.set (i / 32) (y + 2 ^ (i % 32)))) := by rw [← hye.out]; exact HI4.out
          have HOR : Hid (bits .or .u32 (y : Int) ((2 : Int) ^ (i % 32) % 4294967296) = ((y + 2 ^ (i % 32) : Nat) : Int)) := by
            have h := HXX.out
            rw [hye.out] at h
            exact or_bit (Nat.mod_lt _ (by decide)) h.1 h.2
          have hne : w1.heap.size ≠ w.heap.size + 1 + 1 := by have := HH.out; omega
          have HB6 := Lib.hid (H6.out.1.set32 (i / 32) (y + 2 ^ (i % 32)) _ HOR.out)
          have hfr : Afar w1.heap.size (some ⟨(w2.drewN q).heap.size, 0, none⟩) := by
            intro a ha e
            cases ha
            have h1 := hs25
            have h2 : (w2.drewN q).heap.size = w2.heap.size := rfl
            simp only at e
            omega
          have HM6 := Lib.hid (mRd_far H6.out.2.2.2 hfr (i / 32) (.int .u32 (bits .or .u32 (y : Int) ((2 : Int) ^ (i % 32) % 4294967296))))
          have HFR := Lib.hid hfr
          have HB7 := Lib.hid (H6.out.2.1.far (p := ⟨w1.heap.size, i / 32, none⟩) (Ne.symm hne) (.int .u32 (bits .or .u32 (y : Int) ((2 : Int) ^ (i % 32) % 4294967296))))
          have HW7 := Lib.hid (H6.out.2.2.1.setCell (p := ⟨w1.heap.size, i / 32, none⟩) (Nat.le_refl _) (.int .u32 (bits .or .u32 (y : Int) ((2 : Int) ^ (i % 32) % 4294967296))))
          clear hm2 hW4 hb4 H5 HI4 hye hfr hs25
          go_wp2_with fail
          go_region
          all_goals (
            go_wp2
            exact ⟨⟨r - mb * 2 ^ i, i, _, rfl, by omega, HI5.out, ⟨_, _, _, rfl, HM6.out, HFR.out⟩, HB6.out, HB7.out, (by first | exact HW7.out | exact Below.drew HW7.out)⟩, by simp [intOf] <;> omega⟩)
end Go.Proofs.YtfgdmiigmcnmpaaGreatFmt
