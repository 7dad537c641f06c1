/- Walks and plain laws of this seat's functions, part 41: R3c R5 R4. -/
import Derived.Test.YtogjodnmegafdaaGreatFmtJ02
import Derived.Test.YtogjodnmegafdaaGreatFmtJ03
import Derived.Test.YtogjodnmegafdaaGreatFmtJ04
import Derived.Test.YtogjodnmegafdaaGreatFmtJ06
import Derived.Test.YtogjodnmegafdaaGreatFmtJ08
import Derived.Test.YtogjodnmegafdaaGreatFmtJ10
set_option linter.unusedVariables false
set_option linter.unusedSimpArgs false
namespace Go.Proofs.YtogjodnmegafdaaGreatFmt
open Go.RowKit

/-! ### numbers of the reference, their cells written out -/
def stepS (d : Int) : Int := if d = 1 then 1 else if d = 2 then -1 else 0
def numV (u : Nat) : Int := if fin u then fv u else 0
theorem fexp_bad {u : Nat} (h : fin u = false) : fexp u = 2047 := by unfold fin at h; simpa using h
/-- a number of the reference, its cells written out -/
def NumC (K : Nat) (w : World) (base : Nat) (X : Int) (neg : Bool) (A : Option Addr) (n c : Nat) (x : Int) : Prop := (numRd K).R w base X [.bool neg, .slice A n c, .int .i64 x]
theorem NumC.of {K : Nat} {w : World} {base : Nat} {X : Int} {cs : List Value} (h : (numRd K).R w base X cs) : ∃ (neg : Bool) (A : Option Addr) (n c : Nat) (x : Int), cs = [.bool neg, .slice A n c, .int .i64 x] ∧ NumC K w base X neg A n c x := by
  have h' := h
  obtain ⟨neg, m, x, v, rfl, ⟨xs, A, c, hv, _⟩, _⟩ := h'
  cases hv
  exact ⟨neg, A, _, c, x, rfl, h⟩
theorem NumC.set {K : Nat} {w : World} {base b : Nat} {X : Int} {neg : Bool} {A : Option Addr} {n c : Nat} {x : Int} {cs : List Value} (h : NumC K w base X neg A n c x) (hb : Blk w b 25 cs) (hbase : base ≤ b) (i : Nat) (u : Value) : NumC K (w.setCell ⟨b, i, none⟩ u) base X neg A n c x :=
  numRd_setNT h ⟨25, cs, by decide, hb⟩ hbase i u
theorem NumC.below {K : Nat} {w w' : World} {base : Nat} {X : Int} {neg : Bool} {A : Option Addr} {n c : Nat} {x : Int} (h : NumC K w base X neg A n c x) (hb : Below w.heap.size w w') : NumC K w' base X neg A n c x := (numRd K).below h hb
theorem num_zero (K : Nat) (w : World) (base : Nat) : NumC K w base 0 false none 0 0 0 :=
  ⟨false, 0, 0, .slice none 0 0, rfl, ⟨[], none, 0, rfl, Nat.le_refl _, Rd.Row.nil _ _ _ _ _, .inl rfl, rfl⟩, fun h => absurd rfl h, by decide, by rw [Nat.zero_mul]; rfl⟩
theorem of_calls (u base : Nat) (w : World) (hu : u < 18446744073709551616) :
    Calls Tryz.prog 19 #[.int .u64 u] w fun e w' => ∃ (neg : Bool) (A : Option Addr) (n c : Nat) (x : Int), e = .returned (.tuple #[.agg #[.bool neg, .slice A n c, .int .i64 x], .bool (fin u)]) ∧ NumC 1074 w' base (numV u) neg A n c x ∧ Below w.heap.size w w' := by
  unfold numV
  rcases h : fin u with _ | _
  · refine (of_bad u w hu (fexp_bad h)).mono ?_
    rintro e w' ⟨rfl, hW⟩
    exact ⟨false, none, 0, 0, 0, rfl, num_zero _ _ _, hW⟩
  · refine (of_fin u base w hu h).mono ?_
    rintro e w' ⟨cs, rfl, hR, hW⟩
    obtain ⟨neg, A, n, c, x, rfl, hN⟩ := NumC.of hR
    exact ⟨neg, A, n, c, x, rfl, hN, hW⟩
theorem three {w : World} {b t : Nat} {x0 x1 x2 : Value} (h : Blk w b t [x0, x1, x2]) : (w.cell? ⟨b, 0, none⟩ = some x0 ∧ w.cell? ⟨b, 1, none⟩ = some x1 ∧ w.cell? ⟨b, 2, none⟩ = some x2) ∧ (w.frozen? ⟨b, 0, none⟩ = false ∧ w.frozen? ⟨b, 1, none⟩ = false ∧ w.frozen? ⟨b, 2, none⟩ = false) :=
  ⟨⟨h.cell 0, h.cell 1, h.cell 2⟩, h.frozen 0, h.frozen 1, h.frozen 2⟩
theorem num_new (w : World) : Blk (w.alloc (.cells #[.bool false, .slice none 0 0, .int .i64 0] 25)) w.heap.size 25 [.bool false, .slice none 0 0, .int .i64 0] := Blk.new _ _ _
theorem NumC.raise {K : Nat} {w : World} {base : Nat} {X : Int} {neg : Bool} {A : Option Addr} {n c : Nat} {x : Int} (h : NumC K w base X neg A n c x) (J : Nat) : NumC (K + J) w base (X * ((2 ^ J : Nat) : Int)) neg A n c x := by
  obtain ⟨neg', m, e, v, hcs, hm, he, heb, hX⟩ := h
  refine ⟨neg', m, e, v, hcs, hm, fun h => by have := he h; omega, heb, ?_⟩
  by_cases h0 : m = 0
  · subst h0; rw [hX, Nat.zero_mul, Nat.zero_mul, sg_zero, Int.zero_mul]
  · have := he h0
    rw [hX, sg_pow, Nat.mul_assoc, ← Nat.pow_add]
    congr 3
    omega
/-- a number's three cells in a block: load, call -/
theorem num_blk (w : World) (neg : Bool) (A : Option Addr) (n c : Nat) (x : Int) : Blk (w.alloc (.cells #[.bool neg, .slice A n c, .int .i64 x] 25)) w.heap.size 25 [.bool neg, .slice A n c, .int .i64 x] := Blk.new _ _ _
end Go.Proofs.YtogjodnmegafdaaGreatFmt

namespace Go.Proofs.YtogjodnmegafdaaGreatFmt
open Go.RowKit


/-! ### ref2.Next, ref2.Scale -/
theorem round_c (d : Int) (K base L : Nat) (X : Int) (n1 : Bool) (A1 : Option Addr) (l1 c1 : Nat) (x1 : Int) (w : World) (hbase : base ≤ w.heap.size) (h : NumC K w base X n1 A1 l1 c1 x1) (hX : X.natAbs < 2 ^ L) (hL : L ≤ 536870912) (hK0 : 1074 < K) (hK : K ≤ 536870912) :
    Calls Tryz.prog 82 #[.int .i64 d, .agg #[.bool n1, .slice A1 l1 c1, .int .i64 x1]] w fun r w' => r = optRet (rndD d K X) ∧ Below w.heap.size w w' := roundd_calls d K base L X _ w hbase h hX hL hK0 hK
theorem plus_c2 (K base L : Nat) (X Y : Int) (n1 n2 : Bool) (A1 A2 : Option Addr) (l1 l2 c1 c2 : Nat) (x1 x2 : Int) (w : World) (hb : base ≤ w.heap.size) (hx : NumC K w base X n1 A1 l1 c1 x1) (hy : NumC K w base Y n2 A2 l2 c2 x2) (hX : X.natAbs < 2 ^ L) (hY : Y.natAbs < 2 ^ L) (hL : L ≤ 1073741824) (hK : K ≤ 1073741824) :
    Calls Tryz.prog 43 #[.agg #[.bool n1, .slice A1 l1 c1, .int .i64 x1], .agg #[.bool n2, .slice A2 l2 c2, .int .i64 x2]] w fun e w' => ∃ (neg : Bool) (A : Option Addr) (n c : Nat) (x : Int), e = .returned (.agg #[.bool neg, .slice A n c, .int .i64 x]) ∧ NumC K w' base (X + Y) neg A n c x ∧ Below w.heap.size w w' := by
  refine (plus_num K base L X Y _ _ w hb hx hy hX hY hL hK).mono ?_
  rintro e w' ⟨cs, rfl, hR, hW⟩
  obtain ⟨neg, A, n, c, x, rfl, hN⟩ := NumC.of hR
  exact ⟨neg, A, n, c, x, rfl, hN, hW⟩
theorem minus_c3 (K base L : Nat) (X Y : Int) (n1 n2 : Bool) (A1 A2 : Option Addr) (l1 l2 c1 c2 : Nat) (x1 x2 : Int) (w : World) (hb : base ≤ w.heap.size) (hx : NumC K w base X n1 A1 l1 c1 x1) (hy : NumC K w base Y n2 A2 l2 c2 x2) (hX : X.natAbs < 2 ^ L) (hY : Y.natAbs < 2 ^ L) (hL : L ≤ 1073741824) (hK : K ≤ 1073741824) :
    Calls Tryz.prog 22 #[.agg #[.bool n1, .slice A1 l1 c1, .int .i64 x1], .agg #[.bool n2, .slice A2 l2 c2, .int .i64 x2]] w fun e w' => ∃ (neg : Bool) (A : Option Addr) (n c : Nat) (x : Int), e = .returned (.agg #[.bool neg, .slice A n c, .int .i64 x]) ∧ NumC K w' base (X - Y) neg A n c x ∧ Below w.heap.size w w' := by
  refine (minus_num K base L X Y _ _ w hb hx hy hX hY hL hK).mono ?_
  rintro e w' ⟨cs, rfl, hR, hW⟩
  obtain ⟨neg, A, n, c, x, rfl, hN⟩ := NumC.of hR
  exact ⟨neg, A, n, c, x, rfl, hN, hW⟩
theorem moved_c3 (K K' base L : Nat) (m X : Int) (neg : Bool) (A : Option Addr) (n c : Nat) (x : Int) (w : World) (h : NumC K w base X neg A n c x) (hK : (K' : Int) = K - m) (hm : -1073741824 ≤ m ∧ m ≤ 1073741824) (hL : L ≤ 1073741824) (hX : X.natAbs < 2 ^ L) (hK1 : K ≤ 1073741824) (hK2 : K' ≤ 1073741824) :
    Calls Tryz.prog 25 #[.agg #[.bool neg, .slice A n c, .int .i64 x], .int .i64 m] w fun e w' => ∃ (neg : Bool) (A : Option Addr) (n c : Nat) (x : Int), e = .returned (.agg #[.bool neg, .slice A n c, .int .i64 x]) ∧ NumC K' w' base X neg A n c x ∧ Below w.heap.size w w' := by
  refine (moved_calls K K' base m X _ w h hK hm L hL hX hK1 hK2).mono ?_
  rintro e w' ⟨cs, rfl, hR, hW⟩
  obtain ⟨neg, A, n, c, x, rfl, hN⟩ := NumC.of hR
  exact ⟨neg, A, n, c, x, rfl, hN, hW⟩
theorem one_num {w : World} {base g : Nat} (h : Blk w g 57 [.int .u32 1]) (hg : base ≤ g) : NumC 1080 w base 1 false (some ⟨g, 0, none⟩) 1 1 (-1080) :=
  ⟨false, 1, -1080, _, rfl, (mRd_trim (zs := [1]) (n := 1) (c := 1) h (by intro d hd; simp at hd; subst hd; decide) rfl (Nat.le_refl _) rfl), fun _ => by decide, by decide, by decide⟩
end Go.Proofs.YtogjodnmegafdaaGreatFmt

namespace Go.Proofs.YtogjodnmegafdaaGreatFmt
open Go.RowKit

/-! ### Part: a whole quotient, bit by bit -/
set_option maxHeartbeats 1000000 in
theorem minus_own (A B : Option Addr) (n m ca cb t1 t2 base b2 b3 : Nat) (xs ys : List Nat) (w : World) (hn : xs.length = n) (hm : ys.length = m) (hA : u32.Row t1 w base A xs) (hB : u32.Row t2 w b3 B ys)
    (hl : m ≤ n) (hx : n ≤ 1099511627776) (hle : val B32 ys ≤ val B32 xs) :
    Calls Tryz.prog 78 #[.slice A n ca, .slice B m cb] w fun e w' => ∃ k c : Nat, e = .returned (.slice (some ⟨w.heap.size, 0, none⟩) k c) ∧ mRd.R w' b2 (val B32 xs - val B32 ys) [.slice (some ⟨w.heap.size, 0, none⟩) k c] ∧ Below w.heap.size w w' := by
  subst hn hm
  have hm := fun W => make32 (n := xs.length) W (by omega)
  have HLE := Lib.hid hle
  clear hle
  go_enter Tryz.func78, Tryz.ntmps78
  go_wp2
  clear hm
  go_loopw [6, 7] (fun c i wr => ∃ (k cc : Nat) (zs : List Nat), i = .int .i64 k ∧ c = .int .u64 cc ∧ cc ≤ 1 ∧ k ≤ xs.length ∧ Hid (MinusInv B32 xs ys k cc zs) ∧ Hid (Blk wr w.heap.size 57 (i32s zs)) ∧ Hid (Below w.heap.size w wr)) (fun _ i _ => xs.length - (intOf i).toNat)
  case atStart => exact ⟨0, 0, _, rfl, rfl, by omega, by omega, MinusInv.start _ (by decide) _ _, by rw [← made32]; exact Blk.new _ _ _, below_new (Below.refl _ _) _⟩
  case round =>
    obtain ⟨k, cc, zs, rfl, rfl, hc1, hk, hI, hZ, hW⟩ := hrel
    have hzl := hI.out.1
    by_cases hlt : k < xs.length
    · obtain ⟨a, x, rfl, hca, hxb, hx⟩ := u32at (hA.below hW.out) hlt
      obtain ⟨z, hz1, hz2, _, _⟩ := hZ.out.at32 (i := k) (by omega) hI.out.2.1
      by_cases hlt2 : k < ys.length
      · obtain ⟨b, y, rfl, hcb, hyb, hy⟩ := u32at (hB.below hW.out) hlt2
        by_cases hb : x < cc + y
        · go_wp2
          go_roundw
          case rel => exact ⟨k + 1, 1, _, by go_num, rfl, by omega, by omega, MinusInv.step (s := cc + y) (z := x + 4294967296 - (cc + y)) (by decide) hI.out hlt (by rw [hy.out]) (by simp only [B32]; omega) (by omega) (by rw [hx.out]; simp only [B32]; omega), hZ.out.set32 _ _ _ (by omega), hW.out.setCell (Nat.le_refl _) _⟩
          case measure => simp [intOf]; omega
        · go_wp2
          go_roundw
          case rel => exact ⟨k + 1, 0, _, by go_num, rfl, by omega, by omega, MinusInv.step (s := cc + y) (z := x - (cc + y)) (by decide) hI.out hlt (by rw [hy.out]) (by simp only [B32]; omega) (by omega) (by rw [hx.out]; omega), hZ.out.set32 _ _ _ (by omega), hW.out.setCell (Nat.le_refl _) _⟩
          case measure => simp [intOf]; omega
      · by_cases hb : x < cc
        · go_wp2
          go_roundw
          case rel => exact ⟨k + 1, 1, _, by go_num, rfl, by omega, by omega, MinusInv.step (s := cc) (z := x + 4294967296 - cc) (by decide) hI.out hlt (by rw [getD_ge (by omega)]; rfl) (by simp only [B32]; omega) (by omega) (by rw [hx.out]; simp only [B32]; omega), hZ.out.set32 _ _ _ (by omega), hW.out.setCell (Nat.le_refl _) _⟩
          case measure => simp [intOf]; omega
        · go_wp2
          go_roundw
          case rel => exact ⟨k + 1, 0, _, by go_num, rfl, by omega, by omega, MinusInv.step (s := cc) (z := x - cc) (by decide) hI.out hlt (by rw [getD_ge (by omega)]; rfl) (by simp only [B32]; omega) (by omega) (by rw [hx.out]; omega), hZ.out.set32 _ _ _ (by omega), hW.out.setCell (Nat.le_refl _) _⟩
          case measure => simp [intOf]; omega
    · obtain rfl : k = xs.length := by omega
      go_wp2_with fail
      refine (trim_calls _ _ _ 57 0 zs _ hzl (u32all hZ.out hI.out.2.1) (by omega) (Nat.le_refl _)).mono ?_
      rintro e w' ⟨rfl, rfl⟩
      have HH := Lib.hid (mRd_trim (base := b2) hZ.out hI.out.2.1 hzl (Nat.le_refl _) (hI.out.done (by decide) hl HLE.out))
      go_wp2
      go_ret
      exact ⟨_, _, rfl, HH.out, hW.out⟩

theorem row_far {t : Nat} {w : World} {base g : Nat} {A : Option Addr} {xs : List Nat} (h : u32.Row t w base A xs) (hne : ∀ a, A = some a → a.block ≠ g) (i : Nat) (u : Value) : u32.Row t (w.setCell ⟨g, i, none⟩ u) base A xs := by
  intro k x hk
  obtain ⟨a, cs, ha, hok, hlt, hr, hc⟩ := h k x hk
  have hs : (w.setCell ⟨g, i, none⟩ u).heap[a.block]? = w.heap[a.block]? := Below.heap_setCell w ⟨g, i, none⟩ u a.block (hne a ha)
  refine ⟨a, cs, ha, hok.imp id (fun ⟨c, hh⟩ => ⟨c, hs.trans hh⟩), ?_, hr, fun j u' hj => ?_⟩
  · have := ((Below.refl 0 w).setCell (p := ⟨g, i, none⟩) (Nat.zero_le _) u).size
    omega
  · exact (World.cell?_of_block (by rw [Addr.add_block]; exact hs)).trans (hc j u' hj)
/-- a trimmed row away from the block g -/
def Afar (g : Nat) (A : Option Addr) : Prop := ∀ a, A = some a → a.block ≠ g
theorem mRd_far {w : World} {base g m n c : Nat} {A : Option Addr} (h : mRd.R w base m [.slice A n c]) (hne : Afar g A) (i : Nat) (u : Value) : mRd.R (w.setCell ⟨g, i, none⟩ u) base m [.slice A n c] := by
  obtain ⟨xs, A', c', hv, h1, h2, h3, h4⟩ := h
  cases hv
  exact ⟨xs, A, c, rfl, h1, row_far h2 hne i u, h3, h4⟩
theorem mRd_old {w : World} {base g m n c : Nat} {A : Option Addr} (h : mRd.R w base m [.slice A n c]) (h0 : m ≠ 0) (hg : w.heap.size ≤ g) : Afar g A := by
  obtain ⟨xs, A', c', hv, h1, h2, h3, h4⟩ := h
  cases hv
  have hx : xs ≠ [] := by rintro rfl; exact h0 (h4.symm)
  obtain ⟨x, hx⟩ : ∃ x, xs[0]? = some x := by
    cases xs with
    | nil => exact absurd rfl hx
    | cons a b => exact ⟨a, rfl⟩
  obtain ⟨a, cs, ha, hok, hlt, hr, hc⟩ := h2 0 x hx
  intro a' ha' e
  rw [ha] at ha'
  obtain rfl := Option.some.inj ha'
  omega
theorem bit_word {k t : Nat} {zs : List Nat} (hk : k < zs.length) (hz : ∀ d ∈ zs, d < B32) (ht : t < 32) (h : val B32 zs % 2 ^ (32 * k + t + 1) = 0) : zs.getD k 0 % 2 ^ (t + 1) = 0 := by
  obtain ⟨p, x, q, rfl, rfl⟩ := split_at hk
  have e2 : (p ++ x :: q).getD p.length 0 = x := by simp
  rw [e2]
  have hv : val B32 (p ++ x :: q) = val B32 p + B32 ^ p.length * (x + B32 * val B32 q) := by rw [val_append]; rfl
  have hp : val B32 p < B32 ^ p.length := val_lt (by decide) p (fun d hd => hz d (by simp [hd]))
  have eB : B32 ^ p.length = 2 ^ (32 * p.length) := by rw [show B32 = 2 ^ 32 from rfl, ← Nat.pow_mul]
  have d1 := Nat.dvd_of_mod_eq_zero h
  have d2 : 2 ^ (32 * p.length) ∣ val B32 (p ++ x :: q) := Nat.dvd_trans (Nat.pow_dvd_pow 2 (by omega)) d1
  rw [hv, eB] at d2
  have d3 : 2 ^ (32 * p.length) ∣ val B32 p := (Nat.dvd_add_left (Nat.dvd_mul_right _ _)).1 d2
  rw [eB] at hp
  have hp0 : val B32 p = 0 := Nat.eq_zero_of_dvd_of_lt d3 hp
  rw [hv, hp0, Nat.zero_add, eB, show 32 * p.length + t + 1 = 32 * p.length + (t + 1) from by omega, Nat.pow_add] at d1
  have d4 : 2 ^ (t + 1) ∣ x + B32 * val B32 q := Nat.dvd_of_mul_dvd_mul_left (Nat.pow_pos (by decide)) d1
  have d5 : 2 ^ (t + 1) ∣ B32 * val B32 q := Nat.dvd_trans (Nat.pow_dvd_pow 2 (by omega : t + 1 ≤ 32)) (Nat.dvd_mul_right _ _)
  exact Nat.mod_eq_zero_of_dvd ((Nat.dvd_add_left d5).1 d4)
/-- the quotient so far (zs), and what is left (r), the bits from j on being decided -/
structure PInv (N ma mb j r : Nat) (zs : List Nat) : Prop where
  len : zs.length = N
  all : ∀ d ∈ zs, d < B32
  eq : ma = mb * val B32 zs + r
  low : val B32 zs % 2 ^ j = 0
  lt : r < mb * 2 ^ j
theorem PInv.down {N ma mb j r : Nat} {zs : List Nat} (h : PInv N ma mb (j + 1) r zs) (hr : r < mb * 2 ^ j) : PInv N ma mb j r zs := by
  refine ⟨h.len, h.all, h.eq, ?_, hr⟩
  have d := Nat.dvd_of_mod_eq_zero h.low
  exact Nat.mod_eq_zero_of_dvd (Nat.dvd_trans (Nat.pow_dvd_pow 2 (by omega)) d)
theorem PInv.bit {N ma mb j r x : Nat} {zs : List Nat} (h : PInv N ma mb (j + 1) r zs) (hr : mb * 2 ^ j ≤ r) (hj : j / 32 < N) (hx : zs.getD (j / 32) 0 = x) : x % 2 ^ (j % 32 + 1) = 0 ∧ x + 2 ^ (j % 32) < 4294967296 ∧ PInv N ma mb j (r - mb * 2 ^ j) (zs.set (j / 32) (x + 2 ^ (j % 32))) := by
  have hk : j / 32 < zs.length := by rw [h.len]; exact hj
  have ht : j % 32 < 32 := Nat.mod_lt _ (by decide)
  have e1 : 32 * (j / 32) + j % 32 + 1 = j + 1 := by omega
  have hb := bit_word hk h.all ht (by rw [e1]; exact h.low)
  rw [hx] at hb
  have hxB : x < 2 ^ 32 := by
    have hall := h.all
    obtain ⟨p, y, q, hpq, hp⟩ := split_at hk
    rw [hpq] at hx hall
    have e2 : (p ++ y :: q).getD (j / 32) 0 = y := by rw [← hp]; simp
    rw [e2] at hx
    rw [← hx]
    exact hall y (by simp)
  have hs : x + 2 ^ (j % 32) < 4294967296 := by
    obtain ⟨c, hc⟩ := Nat.dvd_of_mod_eq_zero hb
    have e3 : 2 ^ 32 = 2 ^ (j % 32 + 1) * 2 ^ (31 - j % 32) := by rw [← Nat.pow_add]; congr 1; omega
    have hc2 : c < 2 ^ (31 - j % 32) := by
      rw [hc, e3] at hxB
      exact Nat.lt_of_mul_lt_mul_left hxB
    have h4 : 2 ^ (j % 32 + 1) * (c + 1) ≤ 2 ^ 32 := by rw [e3]; exact Nat.mul_le_mul_left _ hc2
    rw [Nat.mul_add, ← hc, Nat.mul_one, Nat.pow_succ] at h4
    have hp : 0 < 2 ^ (j % 32) := Nat.pow_pos (by decide)
    have : (2 : Nat) ^ 32 = 4294967296 := by decide
    omega
  have hv := val_set_any B32 (x + 2 ^ (j % 32)) hk
  rw [hx] at hv
  have eB : B32 ^ (j / 32) * 2 ^ (j % 32) = 2 ^ j := by
    rw [show B32 = 2 ^ 32 from rfl, ← Nat.pow_mul, ← Nat.pow_add]
    congr 1; omega
  rw [Nat.mul_add, eB] at hv
  have hv2 : val B32 (zs.set (j / 32) (x + 2 ^ (j % 32))) = val B32 zs + 2 ^ j := by omega
  refine ⟨hb, hs, by rw [List.length_set]; exact h.len, ?_, ?_, ?_, ?_⟩
  · intro d hd
    rcases List.mem_or_eq_of_mem_set hd with h1 | h1
    · exact h.all d h1
    · rw [h1]; exact hs
  · rw [hv2, Nat.mul_add]
    have := h.eq
    omega
  · rw [hv2]
    have d := Nat.dvd_of_mod_eq_zero h.low
    have d1 : 2 ^ j ∣ val B32 zs := Nat.dvd_trans (Nat.pow_dvd_pow 2 (by omega)) d
    exact Nat.mod_eq_zero_of_dvd (Nat.dvd_add d1 (Nat.dvd_refl _))
  · have := h.lt
    rw [Nat.pow_succ, ← Nat.mul_assoc, Nat.mul_comm _ 2] at this
    omega
theorem PInv.start {N n ma mb : Nat} (h : ma < mb * 2 ^ (n + 1)) : PInv N ma mb (n + 1) ma (List.replicate N 0) :=
  ⟨List.length_replicate, fun d hd => by rw [List.eq_of_mem_replicate hd]; decide, by rw [val_replicate, Nat.mul_zero, Nat.zero_add], by rw [val_replicate, Nat.zero_mod], h⟩
theorem PInv.done {N ma mb r : Nat} {zs : List Nat} (h : PInv N ma mb 0 r zs) : val B32 zs = ma / mb ∧ r = ma % mb := by
  have hl := h.lt
  rw [Nat.pow_zero, Nat.mul_one] at hl
  have e := h.eq
  constructor
  · rw [e, Nat.mul_comm, Nat.add_comm, Nat.add_mul_div_right _ _ (by omega), Nat.div_eq_of_lt hl, Nat.zero_add]
  · rw [e, Nat.mul_add_mod, Nat.mod_eq_of_lt hl]
theorem bl_quot {ma mb n : Nat} (hb : mb ≠ 0) (h : bl ma = n + bl mb) : ma < mb * 2 ^ (n + 1) := by
  have h1 := bl_lt ma
  have h2 := bl_le hb
  rw [h] at h1
  have hp := bl_pos hb
  refine Nat.lt_of_lt_of_le h1 ?_
  have e : 2 ^ (n + bl mb) = 2 ^ (bl mb - 1) * 2 ^ (n + 1) := by rw [← Nat.pow_add]; congr 1; omega
  rw [e]
  exact Nat.mul_le_mul_right _ h2
theorem bl_less {ma mb : Nat} (h : bl ma < bl mb) : ma < mb := by
  have hb : mb ≠ 0 := by intro h0; subst h0; rw [bl_zero] at h; omega
  have h1 := bl_lt ma
  have h2 := bl_le hb
  exact Nat.lt_of_lt_of_le h1 (Nat.le_trans (Nat.pow_le_pow_right (by decide) (by omega)) h2)
end Go.Proofs.YtogjodnmegafdaaGreatFmt
